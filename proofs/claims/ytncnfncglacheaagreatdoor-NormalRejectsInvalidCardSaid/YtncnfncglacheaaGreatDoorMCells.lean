/- Own rows of structs. -/
import Derived.Test.YtncnfncglacheaaGreatDoorMOwn
import Derived.LoopN
import Derived.Lib.ConvBytes
import Derived.Lib.Hide
import Derived.Test.YtncnfncglacheaaGreatDoorProg
import Derived.WalkSmall
import Derived.Test.YtncnfncglacheaaGreatDoorMHeld
import Derived.StillTail
import Derived.Deep.RegionHeld
import Derived.Deep.Quiet
import Derived.Deep.SlicePairs
import Derived.OwnWalk
import Derived.Laws.CopyRow
namespace Go.Proofs.YtncnfncglacheaaGreatDoor
open Go Go.RowKit Mem
set_option maxRecDepth 100000
theorem heap_new' (w:World) (o:Obj) (k:Nat) (h:k=w.heap.size):(w.alloc o).heap[k]?=some o:=by subst h;exact World.alloc_heap_new w _
def Pause (p:Prop):Prop:=p
theorem Pause.out {p:Prop} (h:p):Pause p:=h
theorem Pause.back {p:Prop} (h:Pause p):p:=h
abbrev OC:={v:Value // v.oneCell'=true}
def oV (x:OC):Value:=x.1
theorem oV_one (x:OC):(oV x).oneCell'=true:=x.2
def oi (n:Int):OC:=⟨.int .i64 n,rfl⟩
def ob (b:Bool):OC:=⟨.bool b,rfl⟩
def os (s:ByteArray):OC:=⟨.string s,rfl⟩
def ow (n:Int):OC:=⟨.int .u64 n,rfl⟩
def on:OC:=⟨.slice none 0 0,rfl⟩
def stC (kind x:Int) (nm:ByteArray) (t e:Int):List OC:=
 [oi kind,oi x,oi 0,oi 0,oi 0,oi 0,oi 0,on,ob false,oi 0,on,on,ow 0,ow 0,ow 0,ow 0,oi 0,oi 0,oi 0,oi 0,ob false,on,on,oi 0,ob false,oi 0,oi 0,oi 0,oi 0,on,os nm,oi t,oi e]
theorem stC_length (kind x:Int) (nm:ByteArray) (t e:Int):(stC kind x nm t e).length=33:=rfl
theorem below_set {B:Nat} {w w':World} (h:Below B w w') {b:Nat} (i:Nat) (hb:B≤b) (v:Value):Below B w (w'.setCell ⟨b,i,none⟩ v):=h.setCell hb v
namespace Mem
variable {α:Type} {f:α→Value} {w:World} {l:List α} {P:Program} {ops:Array Oper} {rest:List Oper} {o:Oper} {a:Act} {Q:Exit→Act→World→Prop}
theorem load_agg_w {ty:TypeId} (T:AggT P ty l.length) (x:Operand) (hw:Region.wanted o (yielded ops a.tmps)=true) (ho:o.op= .load ty x) (b off:Nat) (hx:a.eval x= .pointer (some ⟨b,off,none⟩)) (h:At f w b off l)
  {C:Array Value} (hC:C=(l.map f).toArray) (hk:wpList P ops Q rest (a.put o.dst (.agg C)) w):wpList P ops Q (o::rest) a w:=by
 subst hC
 refine wpList_step fun K hK=> ?_
 rw [if_pos hw]
 unfold Oper.wp execOp
 simp only [ho,hx,Instr.loadAt,Instr.sureAddr,Sem.run_bind,Sem.run_pure,Result.andThen_ok,run_load_agg T h]
 exact hK _ _ hk
theorem closed_w {u:Value} (op:Op) (hw:Region.wanted o (yielded ops a.tmps)=true) (ho:o.op=op) (hr:(execOp a.eval o).run P w= .ok (.value u) w) (hk:wpList P ops Q rest (a.put o.dst u) w):wpList P ops Q (o::rest) a w:=by
 have _:=ho
 refine wpList_step fun K hK=> ?_
 rw [if_pos hw]
 unfold Oper.wp
 rw [hr]
 exact hK _ _ hk
end Mem
def FP (w:World) (v:Value) (nm:ByteArray):Prop:=
 ∃sb so sc bb bo bc ib io ic,v= .agg #[.slice (some ⟨sb,so,none⟩) 1 sc, .slice (some ⟨bb,bo,none⟩) 1 bc]∧(1≤sc∧1≤bc∧1≤ic)∧(At oV w sb so (stC 13 0 nm (-1) (-1))∧sb<w.heap.size)∧
  (w.cell? ⟨bb,bo,none⟩=some (.slice (some ⟨ib,io,none⟩) 1 ic)∧bb<w.heap.size)∧w.cell? ⟨ib,io,none⟩=some (.int .i64 0)∧ib<w.heap.size
theorem FP.below {w w':World} {v:Value} {nm:ByteArray} (h:FP w v nm) (hb:Below w.heap.size w w'):FP w' v nm:=by
 obtain ⟨sb,so,sc,bb,bo,bc,ib,io,ic,rfl,hcap,⟨h1,l1⟩,⟨h2,l2⟩,h3,l3⟩:=h
 exact ⟨sb,so,sc,bb,bo,bc,ib,io,ic,rfl,hcap,⟨h1.below hb l1,Nat.lt_of_lt_of_le l1 hb.size⟩,⟨(hb.cell (p:=⟨bb,bo,none⟩) l2).trans h2,Nat.lt_of_lt_of_le l2 hb.size⟩,(hb.cell (p:=⟨ib,io,none⟩) l3).trans h3,Nat.lt_of_lt_of_le l3 hb.size⟩
end Go.Proofs.YtncnfncglacheaaGreatDoor
namespace Go.Proofs.YtncnfncglacheaaGreatDoor
open Go Go.RowKit Mem
set_option maxRecDepth 100000
structure Sl where
 p:Option Addr
 n:Nat
 c:Nat
abbrev Sl.v (s:Sl):Value:= .slice s.p s.n s.c
def Sl.oc (s:Sl):OC:=⟨.slice s.p s.n s.c,rfl⟩
abbrev Sl.z:Sl:=⟨none,0,0⟩
def iV (n:Int):Value:= .int .i64 n
structure St where
 kind:Int
 X:Int:=0
 Y:Int:=0
 Z:Int:=0
 N:Int:=0
 I:Int:=0
 J:Int:=0
 B:Sl:=Sl.z
 last:Bool:=false
 ok:Int:=0
 old:Sl:=Sl.z
 new:Sl:=Sl.z
 c0:Int:=0
 c1:Int:=0
 c2:Int:=0
 c3:Int:=0
 rb:Int:=0
 rd:Int:=0
 rt:Int:=0
 ro:Int:=0
 rz:Bool:=false
 P:Sl:=Sl.z
 Ys:Sl:=Sl.z
 ck:Int:=0
 cn:Bool:=false
 cx:Int:=0
 cy:Int:=0
 cN:Int:=0
 cK:Int:=0
 cr:Sl:=Sl.z
 nm:ByteArray:=⟨#[]⟩
 t:Int:= -1
 e:Int:= -1
 lb:List UInt8:=[]
 lold:List UInt8:=[]
 lnew:List UInt8:=[]
 lys:List Int:=[]
 ext:World→Prop:=fun _=>True
def St.cs (s:St):List OC:=
 [oi s.kind,oi s.X,oi s.Y,oi s.Z,oi s.N,oi s.I,oi s.J,s.B.oc,ob s.last,oi s.ok,s.old.oc,s.new.oc,ow s.c0,ow s.c1,ow s.c2,ow s.c3,oi s.rb,oi s.rd,oi s.rt,oi s.ro,ob s.rz,s.P.oc,s.Ys.oc,
  oi s.ck,ob s.cn,oi s.cx,oi s.cy,oi s.cN,oi s.cK,s.cr.oc,os s.nm,oi s.t,oi s.e]
theorem St.cs_length (s:St):s.cs.length=33:=rfl
def Gl (w:World):Prop:=∃m,w.cell? ⟨0,0,none⟩=some (.int .i64 m)
theorem Gl.pos {w:World} (h:Gl w):0<w.heap.size:=by
 obtain ⟨m,hm⟩:=h
 rcases Nat.eq_zero_or_pos w.heap.size with h0 | h0
 ·unfold World.cell? at hm
  rw [Array.getElem?_eq_none (by show w.heap.size≤0;omega)] at hm
  cases hm
 ·exact h0
theorem Gl.below {w w':World} {B:Nat} (h:Gl w) (hB:0<B) (hb:Below B w w'):Gl w':=by
 obtain ⟨m,hm⟩:=h
 exact ⟨m,(World.cell?_of_block (a:=⟨0,0,none⟩) (hb.block 0 hB)).trans hm⟩
structure StD (w:World) (s:St):Prop where
 b:Rd u8V w s.B.v s.lb
 old:Rd u8V w s.old.v s.lold
 new:Rd u8V w s.new.v s.lnew
 ys:Rd iV w s.Ys.v s.lys
 gl:1<s.lb.length→Gl w
 ex:∀W,Below w.heap.size w W→s.ext W
theorem StD.below {w w':World} {s:St} (h:StD w s) (hb:Below w.heap.size w w'):StD w' s:=⟨h.b.below hb,h.old.below hb,h.new.below hb,h.ys.below hb,fun hl=>(h.gl hl).below (h.gl hl).pos hb,fun W hW=>h.ex W (hb.trans (hW.mono hb.size))⟩
inductive Blk where
 | nil
 | cons (i:Nat) (t e rest:Blk)
def Blk.size:Blk→Nat
 | .nil=>0
 | .cons _ t e r=>1+t.size+e.size+r.size
def RepL (S:List St) (B:List (List Int)):List Int→Blk→Prop
 | l, .nil=>l=[]
 | l, .cons i t e r=>∃s l',l=(i:Int)::l'∧S[i]?=some s∧((s.t= -1∧t= .nil)∨∃k:Nat,s.t=k∧∃m,B[k]?=some m∧RepL S B m t)∧
   ((s.e= -1∧e= .nil)∨∃k:Nat,s.e=k∧∃m,B[k]?=some m∧RepL S B m e)∧RepL S B l' r
def Rep (S:List St) (B:List (List Int)) (k:Int) (b:Blk):Prop:=(k= -1∧b= .nil)∨∃n:Nat,k=n∧∃m,B[n]?=some m∧RepL S B m b
structure PgM (w:World) (ss bs:Sl) (S:List St) (B:List (List Int)):Prop where
 ns:ss.n=S.length
 nb:bs.n=B.length
 cs:ss.n≤ss.c
 cb:bs.n≤bs.c
 st:S=[]∨∃b o,ss.p=some ⟨b,o,none⟩∧b<w.heap.size∧∀j s,S[j]?=some s→At oV w b (o+j * 33) s.cs
 sd:∀s∈S,StD w s
 bl:B=[]∨∃b o,bs.p=some ⟨b,o,none⟩∧b<w.heap.size∧∀j l,B[j]?=some l→∃v,w.cell? ⟨b,o+j,none⟩=some v∧Rd iV w v l
theorem PgM.below {w w':World} {ss bs:Sl} {S:List St} {B:List (List Int)} (h:PgM w ss bs S B) (hb:Below w.heap.size w w'):PgM w' ss bs S B:=by
 refine ⟨h.ns,h.nb,h.cs,h.cb,?_,fun s hs=>(h.sd s hs).below hb,?_⟩
 ·rcases h.st with h0 | ⟨b,o,hp,hl,ha⟩
  ·exact .inl h0
  ·exact .inr ⟨b,o,hp,Nat.lt_of_lt_of_le hl hb.size,fun j s hj=>(ha j s hj).below hb hl⟩
 ·rcases h.bl with h0 | ⟨b,o,hp,hl,ha⟩
  ·exact .inl h0
  ·refine .inr ⟨b,o,hp,Nat.lt_of_lt_of_le hl hb.size,fun j l hj=> ?_⟩
   obtain ⟨v,h1,h2⟩:=ha j l hj
   exact ⟨v,(hb.cell (p:=⟨b,o+j,none⟩) hl).trans h1,h2.below hb⟩
end Go.Proofs.YtncnfncglacheaaGreatDoor
namespace Go.Proofs.YtncnfncglacheaaGreatDoor
open Go Go.RowKit Mem
structure Pl where
 live:Bool
 set:List Bool
def Pl.cs (p:Pl):List Bool:=p.live::p.set
structure Rp where
 reach:List Bool
 pos:Int
 err:Int
instance:Inhabited St:=⟨{kind:=0}⟩
def at' (S:List St) (i:Nat):St:=S.getD i default
structure Ex where
 s:List (List UInt8)
 n:List Int
 f:List (ByteArray×List UInt8)
 tr:List Int
inductive Out where
 | go (x:Ex)
 | brk (x:Ex)
 | halt (x:Ex) (ok:Bool) (code:Int)
def Out.then (o:Out) (f:Ex→Out):Out:=match o with
 | .go x=>f x
 | .brk x=> .brk x
 | .halt x ok c=> .halt x ok c
end Go.Proofs.YtncnfncglacheaaGreatDoor
namespace Go.Proofs.YtncnfncglacheaaGreatDoor
open Go Go.RowKit Mem
set_option maxRecDepth 100000
theorem RepL.nil {S:List St} {B:List (List Int)} {r:Blk} (h:RepL S B [] r):r= .nil:=by
 cases r with
 | nil=>rfl
 | cons i t e r=>obtain ⟨s,l',h,_⟩:=h;cases h
theorem RepL.cons {S:List St} {B:List (List Int)} {x:Int} {l:List Int} {r:Blk} (h:RepL S B (x::l) r):
  ∃i t e r' s,x=((i:Nat):Int)∧r= .cons i t e r'∧S[i]?=some s∧Rep S B s.t t∧Rep S B s.e e∧RepL S B l r':=by
 cases r with
 | nil=>cases h
 | cons i t e r=>
  obtain ⟨s,l',h,h1,h2,h3,h4⟩:=h
  injection h with e1 e2
  subst e1 e2
  exact ⟨i,t,e,r,s,rfl,rfl,h1,h2,h3,h4⟩
theorem Rep.open {S:List St} {B:List (List Int)} {k:Int} {b:Blk} (h:Rep S B k b) (hk:k≠ -1):∃n:Nat,k=n∧∃m,B[n]?=some m∧RepL S B m b:=by
 rcases h with ⟨h,_⟩ | h
 ·exact absurd h hk
 ·exact h
theorem PgM.block {w:World} {ss bs:Sl} {S:List St} {B:List (List Int)} (h:PgM w ss bs S B) {k:Nat} {l:List Int} (hk:B[k]?=some l):
  ∃b o v,bs.p=some ⟨b,o,none⟩∧w.cell? ⟨b,o+k,none⟩=some v∧Rd iV w v l∧b<w.heap.size∧k<bs.n:=by
 have hl:k<B.length:=(List.getElem?_eq_some_iff.1 hk).1
 rcases h.bl with h0 | ⟨b,o,h1,h2,h3⟩
 ·rw [h0] at hl;simp at hl
 ·obtain ⟨v,h4,h5⟩:=h3 k l hk
  exact ⟨b,o,v,h1,h4,h5,h2,by rw [h.nb];exact hl⟩
def PgBox (w:World) (b:Nat) (ss bs:Sl):Prop:=w.heap[b]?=some (.cells #[ss.v,bs.v] 27 (0,0))
theorem PgBox.c0 {w:World} {b:Nat} {ss bs:Sl} (h:PgBox w b ss bs):w.cell? ⟨b,0,none⟩=some (.slice ss.p ss.n ss.c):=by unfold World.cell?;rw [h];rfl
theorem PgBox.c1 {w:World} {b:Nat} {ss bs:Sl} (h:PgBox w b ss bs):w.cell? ⟨b,1,none⟩=some (.slice bs.p bs.n bs.c):=by unfold World.cell?;rw [h];rfl
theorem PgBox.below {w w':World} {b K:Nat} {ss bs:Sl} (h:PgBox w b ss bs) (hb:Below K w w') (hK:b<K):PgBox w' b ss bs:=(hb.block b hK).trans h
def LoopsOk (S:List St):Prop:=∀s∈S,s.kind=11→0≤s.I∧s.I≤8
theorem LoopsOk.at {S:List St} (h:LoopsOk S) {i:Nat} {s:St} (hi:S[i]?=some s) (hk:s.kind=11):0≤s.I∧s.I≤8:=h s (List.mem_of_getElem? hi) hk
end Go.Proofs.YtncnfncglacheaaGreatDoor
namespace Go.Proofs.YtncnfncglacheaaGreatDoor
open Go Go.RowKit Mem
variable {P:Program} {ops:Array Oper} {rest:List Oper} {o:Oper} {a:Act} {Q:Exit→Act→World→Prop} {w:World}
end Go.Proofs.YtncnfncglacheaaGreatDoor
namespace Go.Proofs.YtncnfncglacheaaGreatDoor.Mem
open Go Go.RowKit
variable {P:Program} {ops:Array Oper} {Q:Exit→Act→World→Prop} {S:World→Prop} {n:Nat} {L:Array Bool→Act→World→Prop}
def HeadsH (P:Program) (ops:Array Oper) (Q:Exit→Act→World→Prop) (S:World→Prop) (n:Nat) (L:Array Bool→Act→World→Prop):Nat→Array Bool→Act→World→Prop
 | 0,s,a,w=>L s a w
 | f+1,s,a,w=>Region.ready .any ops s≠[]∧∀i∈Region.ready .any ops s,i<n∧wpOp P ops Q i (fun a' w'=>S w'∧HeadsH P ops Q S n L f (s.setIfInBounds i true) a' w') a w
theorem wpAny_of_headsH {g:Nat} (hL:∀s a w,L s a w→wpAny P .any ops Q g s a w) (f:Nat):
  ∀(s:Array Bool) (a:Act) (w:World),HeadsH P ops Q S n L f s a w→wpAny P .any ops Q (f+g) s a w:=by
 induction f with
 | zero=>intro s a w h;rw [Nat.zero_add];exact hL s a w h
 | succ f ih=>
  intro s a w h
  rw [Nat.add_right_comm]
  exact ⟨fun h0=>absurd h0 h.1,fun i hi=>wpOp_mono (fun a' w' h'=>ih _ a' w' h'.2) (h.2 i hi).2⟩
theorem headsH_first {i:Nat} {oi:Oper} {v:Value} (hi:ops[i]?=some oi) (hsel:∀(j:Nat) (o:Oper) cs b,ops[j]?=some o→o.op≠ .select cs b)
  (hs:Region.sinkB .any ops n=true) (hc:Region.chainB .any ops n=true) (hn:n<ops.size) (hin:i<n) (hend:∀s a w,L s a w→∀j∈Region.ready .any ops s,n≤j)
  (hQ:∀c a w,Q (.panic c) (a.put oi.dst v) w→Q (.panic c) a w) (f:Nat):
  ∀(s:Array Bool) (a:Act) (w:World),HeadInv .any ops n s→
   (∀j oj,ops[j]?=some oj→j≠i→s.getD j true=false→(∀e∈oj.after,Region.binds .any e=true→e.on≠i)→oi.apart ops oj=true)→
   i∈Region.ready .any ops s→YieldsIf P ops S oi v a→S w→HeadsH P ops Q S n L f (s.setIfInBounds i true) (a.put oi.dst v) w→HeadsH P ops Q S n L (f+1) s a w:=by
 induction f with
 | zero=>
  intro s a w inv _ hr hy hS H
  have hun:=(mem_ready.1 hr).1
  refine ⟨List.ne_nil_of_mem hr,fun j hj=> ?_⟩
  have hjn:j<n:=Nat.lt_of_not_le fun h=>tail_waits hs hc hn inv _ i rfl hin hun j h hj
  refine ⟨hjn,?_⟩
  by_cases e:j=i
  ·subst e;exact hy.wpOp hi hS ⟨hS,H⟩
  ·exact absurd (hend _ _ _ H j (ready_mono hj e)) (Nat.not_le_of_lt hjn)
 | succ f ih=>
  intro s a w inv hfree hr hy hS H
  have hun:=(mem_ready.1 hr).1
  refine ⟨List.ne_nil_of_mem hr,fun j hj=> ?_⟩
  have hjn:j<n:=Nat.lt_of_not_le fun h=>tail_waits hs hc hn inv _ i rfl hin hun j h hj
  refine ⟨hjn,?_⟩
  by_cases e:j=i
  ·subst e;exact hy.wpOp hi hS ⟨hS,H⟩
  ·obtain ⟨hju,oj,hoj,hall⟩:=mem_ready.1 hj
   have hno:∀d∈oj.after,Region.binds .any d=true→d.on≠i:=by
    intro d hd hb hq
    have:=hall d hd hb
    rw [hq,getD_both hun] at this
    cases this
   have h2:=wpOp_putIf hoj (hfree j oj hoj e hju hno) (fun cs b=>hsel i oi cs b hi) (fun cs b=>hsel j oj cs b hoj) hQ hy (H.2 j (ready_mono hj e)).2
   refine wpOp_mono (fun a' w' h3=>⟨h3.2.1,ih _ a' w' (inv.set hj hjn) ?_ (ready_mono hr (Ne.symm e)) h3.1 h3.2.1 ?_⟩) h2
   ·intro k ok hk hki hku hkno
    refine hfree k ok hk hki ?_ hkno
    by_cases q:j=k
    ·subst q;exact hju
    ·rwa [getD_set_ne true q] at hku
   ·rw [Array.setIfInBounds_comm _ _ e];exact h3.2.2
def HeadsT (P:Program) (l:List Oper) (Q:Exit→Act→World→Prop) (S:World→Prop) (n f:Nat) (s:Array Bool) (a:Act) (w:World):Prop:=
 HeadInv .any l.toArray n s→HeadsH P l.toArray Q S n (fun s' a' w'=>Region.seqB .any l.toArray (l.length - n) n s'=true∧wpList P l.toArray Q (l.drop n) a' w') f s a w
def tailB (ops:Array Oper) (n:Nat):Bool:=Region.noSelect ops && Region.sinkB .any ops n && Region.chainB .any ops n && decide (n<ops.size)
variable {l:List Oper}
theorem headsT_take {i:Nat} {oi:Oper} {v:Value} {f:Nat} {s:Array Bool} {a:Act} {w:World} (hB:tailB l.toArray n=true) (hi:l.toArray[i]?=some oi) (hin:i<n)
  (hf:Region.free .any l.toArray s i=true) (hr:(Region.ready .any l.toArray s).contains i=true) (hQ:∀c a w,Q (.panic c) (a.put oi.dst v) w→Q (.panic c) a w)
  (hy:YieldsIf P l.toArray S oi v a) (hS:S w) (h:HeadsT P l Q S n f (s.setIfInBounds i true) (a.put oi.dst v) w):HeadsT P l Q S n (f+1) s a w:=by
 intro inv
 simp only [tailB,Bool.and_eq_true,decide_eq_true_eq] at hB
 have hr':i∈Region.ready .any l.toArray s:=by simpa using hr
 exact headsH_first hi (Region.noSelect_spec hB.1.1.1) hB.1.1.2 hB.1.2 hB.2 hin (fun s' a' w' hL=>seqB_ready hL.1) hQ f s a w inv (Region.free_spec hi hf) hr' hy hS (h (inv.set hr' hin))
def AllReadyT (P:Program) (l:List Oper) (Q:Exit→Act→World→Prop) (S:World→Prop) (n f:Nat) (s:Array Bool) (a:Act) (w:World) (rs:List Nat):Prop:=
 ∀i∈rs,i<n∧wpOp P l.toArray Q i (fun a' w'=>S w'∧HeadsT P l Q S n f (s.setIfInBounds i true) a' w') a w
theorem AllReadyT.nil {f:Nat} {s:Array Bool} {a:Act} {w:World}:AllReadyT P l Q S n f s a w []:=fun _ h=>by cases h
theorem AllReadyT.cons {f:Nat} {s:Array Bool} {a:Act} {w:World} {i:Nat} {o:Oper} {rs:List Nat} (hin:i<n) (ho:l.toArray[i]?=some o)
  (h:∀K':Act→World→Prop,Shut (∀a w,S w→(S w→HeadsT P l Q S n f (s.setIfInBounds i true) a w)→K' a w)→if Region.wanted o (yielded l.toArray a.tmps)=true then Oper.wp P o a w K' Q else K' (a.put o.dst undef) w)
  (hs:AllReadyT P l Q S n f s a w rs):AllReadyT P l Q S n f s a w (i::rs):=fun j hj=>by
 rcases List.mem_cons.1 hj with rfl | hj
 ·exact ⟨hin,wpOp_step ho (fun K' hK=>h K' (fun a w hS hW=>hK a w ⟨hS,hW hS⟩))⟩
 ·exact hs j hj
theorem headsT_ready {rs:List Nat} {f:Nat} {s:Array Bool} {a:Act} {w:World} (hr:Region.ready .any l.toArray s=rs) (hne:rs≠[]) (h:AllReadyT P l Q S n f s a w rs):HeadsT P l Q S n (f+1) s a w:=by
 intro inv
 subst hr
 refine ⟨hne,fun i hi=>⟨(h i hi).1,wpOp_mono (fun a' w' h'=>⟨h'.1,h'.2 (inv.set hi (h i hi).1)⟩) (h i hi).2⟩⟩
theorem headsT_tail {s:Array Bool} {a:Act} {w:World} (hB:Region.seqB .any l.toArray (l.length - n) n s=true) (h:wpList P l.toArray Q (l.drop n) a w):HeadsT P l Q S n 0 s a w:=fun _=>⟨hB,h⟩
theorem region_headsT {id:Nat} {a:Act} {w:World} (n:Nat) (hm:P.follows .mixedOrders=true) (hB:tailB l.toArray n=true) (hS:S w.drew)
  (h:S w.drew→HeadsT P l Q S n n (Array.replicate l.length false) a w.drew):(Code.region id l.toArray true).wp P Q a w:=by
 have hB':=hB
 simp only [tailB,Bool.and_eq_true,decide_eq_true_eq] at hB'
 have hn:n<l.length:=by simpa using hB'.2
 have hz:HeadInv .any l.toArray n (Array.replicate l.length false):=
  ⟨by simp,fun j oj _ hl=>(by rw [getD_replicate_false] at hl;cases hl),fun t _ ht=>getD_in (by simpa using ht) (getD_replicate_false _ _)⟩
 have H:=h hS hz
 refine wp_region_any hm ?_
 have:=wpAny_of_headsH (Q:=Q) (g:=l.length - n) (fun s a' w' hL=>by
  have hdl:(l.drop n).length=l.length - n:=by simp
  have:=wpAny_of_seq (md:= .any) (Q':=Q) (l.drop n) n s a' w' (fun j=>by simp [List.getElem?_drop]) (by rw [hdl];exact hL.1) hL.2
  rwa [hdl] at this) _ _ _ _ H
 rw [show n+(l.length - n)=l.length by omega] at this
 simpa using this
end Go.Proofs.YtncnfncglacheaaGreatDoor.Mem
namespace Go.Proofs.YtncnfncglacheaaGreatDoor
open Go Go.RowKit Mem
set_option maxRecDepth 100000
theorem Mem.Rd.nonempty {α:Type} {f:α→Value} {w:World} {p:Option Addr} {n k:Nat} {l:List α} (h:Rd f w (.slice p n k) l) (hn:0<n):∃b o,p=some ⟨b,o,none⟩∧n=l.length∧n≤k∧At f w b o l∧b<w.heap.size:=by
 rcases h with ⟨q,he,rfl⟩ | ⟨b,o,cap,he,hc,ha,hlt⟩
 ·injection he with e1 e2 e3;omega
 ·injection he with e1 e2 e3
  subst e1 e2 e3
  exact ⟨b,o,rfl,rfl,hc,ha,hlt⟩
theorem Mem.Rd.len {α:Type} {f:α→Value} {w:World} {p:Option Addr} {n k:Nat} {l:List α} (h:Rd f w (.slice p n k) l):n=l.length:=by
 obtain ⟨_,_,he⟩:=h.slice
 injection he
theorem rd_at {w:World} {p:Option Addr} {n c:Nat} {l:List UInt8} (hu:Rd u8V w (.slice p n c) l) (k:Nat) (hk:k<n):∃(b o:Nat) (x:UInt8),p=some ⟨b,o,none⟩∧l[k]?=some x∧∀X,Below w.heap.size w X→X.cell? ⟨b,o+k,none⟩=some (.int .u8 (x.toNat:Int)):=by
 have hl:=hu.len
 obtain ⟨b,o,rfl,_,_,ha,hlt⟩:=hu.nonempty (by omega)
 have hkl:k<l.length:=by omega
 exact ⟨b,o,l[k],rfl,List.getElem?_eq_getElem hkl,fun X hX=>((hX.cell (p:=⟨b,o+k,none⟩) hlt).trans (ha k hkl)).trans (by rw [List.getElem?_eq_getElem hkl];rfl)⟩
theorem grown_cell (w:World) (b i:Nat) (v:Value):w.grownBy (w.setCell ⟨b,i,none⟩ v) (some b):=
 ⟨rfl,rfl,rfl,(KeepsWalks.setCell w ⟨b,i,none⟩ v).size,fun k _ hk=>Below.heap_setCell _ _ _ k (fun e=>hk (by rw [e]))⟩
def RdK {α:Type} (K:Nat) (enc:α→List OC) (w:World) (v:Value) (l:List α):Prop:=
 (∃p,v= .slice p 0 0∧l=[])∨∃b o cap,v= .slice (some ⟨b,o,none⟩) l.length cap∧l.length≤cap∧(∀i (h:i<l.length),At oV w b (o+i * K) (enc l[i]))∧b<w.heap.size
section
variable {α:Type} {K:Nat} {enc:α→List OC} {w w':World} {v:Value} {l:List α}
theorem RdK.slice (h:RdK K enc w v l):∃p cap,v= .slice p l.length cap:=by
 rcases h with ⟨p,rfl,rfl⟩ | ⟨b,o,cap,rfl,_⟩
 ·exact ⟨p,0,rfl⟩
 ·exact ⟨_,_,rfl⟩
theorem RdK.below (h:RdK K enc w v l) (hb:Below w.heap.size w w'):RdK K enc w' v l:=by
 rcases h with hn | ⟨b,o,cap,rfl,hc,ha,hlt⟩
 ·exact .inl hn
 ·exact .inr ⟨b,o,cap,rfl,hc,fun i hi=>(ha i hi).below hb hlt,Nat.lt_of_lt_of_le hlt hb.size⟩
theorem RdK.elem {p:Option Addr} {n c:Nat} (h:RdK K enc w (.slice p n c) l) (k:Nat) (hk:k<l.length):∃b o,p=some ⟨b,o,none⟩∧At oV w b (o+k * K) (enc l[k])∧l.length≤c∧b<w.heap.size:=by
 rcases h with ⟨_,_,rfl⟩ | ⟨b,o,cap,h1,hc,ha,hlt⟩
 ·simp at hk
 ·cases h1;exact ⟨b,o,rfl,ha k hk,hc,hlt⟩
end
def RdG {α:Type} (R:World→Value→α→Prop) (w:World) (v:Value) (l:List α):Prop:=
 (∃p,v= .slice p 0 0∧l=[])∨∃b o cap,v= .slice (some ⟨b,o,none⟩) l.length cap∧l.length≤cap∧(∀i (h:i<l.length),∃u,w.cell? ⟨b,o+i,none⟩=some u∧R w u l[i])∧b<w.heap.size
section
variable {α:Type} {R:World→Value→α→Prop} {w w':World} {v:Value} {l:List α}
theorem RdG.slice (h:RdG R w v l):∃p cap,v= .slice p l.length cap:=by
 rcases h with ⟨p,rfl,rfl⟩ | ⟨b,o,cap,rfl,_⟩
 ·exact ⟨p,0,rfl⟩
 ·exact ⟨_,_,rfl⟩
theorem RdG.below (h:RdG R w v l) (hb:Below w.heap.size w w') (hR:∀u x,R w u x→R w' u x):RdG R w' v l:=by
 rcases h with hn | ⟨b,o,cap,rfl,hc,ha,hlt⟩
 ·exact .inl hn
 ·refine .inr ⟨b,o,cap,rfl,hc,fun i hi=> ?_,Nat.lt_of_lt_of_le hlt hb.size⟩
  obtain ⟨u,h1,h2⟩:=ha i hi
  exact ⟨u,(hb.cell (p:=⟨b,o+i,none⟩) hlt).trans h1,hR _ _ h2⟩
theorem RdG.elem {p:Option Addr} {n c:Nat} (h:RdG R w (.slice p n c) l) (k:Nat) (hk:k<l.length):∃b o u,p=some ⟨b,o,none⟩∧w.cell? ⟨b,o+k,none⟩=some u∧R w u l[k]∧l.length≤c∧b<w.heap.size:=by
 rcases h with ⟨_,_,rfl⟩ | ⟨b,o,cap,h1,hc,ha,hlt⟩
 ·simp at hk
 ·cases h1
  obtain ⟨u,h1,h2⟩:=ha k hk
  exact ⟨b,o,u,rfl,h1,h2,hc,hlt⟩
end
def nV (n:Nat):Value:= .int .i64 (n:Int)
theorem nV_one (x:Nat):(nV x).oneCell'=true:=rfl
theorem rdN_at {w:World} {p:Option Addr} {n c:Nat} {l:List Nat} (hu:Rd nV w (.slice p n c) l) (k:Nat) (hk:k<n):∃(b o:Nat),p=some ⟨b,o,none⟩∧∀X,Below w.heap.size w X→X.cell? ⟨b,o+k,none⟩=some (.int .i64 (l.getD k 0:Nat)):=by
 have hl:=hu.len
 obtain ⟨b,o,rfl,_,_,ha,hlt⟩:=hu.nonempty (by omega)
 have hkl:k<l.length:=by omega
 exact ⟨b,o,rfl,fun X hX=>((hX.cell (p:=⟨b,o+k,none⟩) hlt).trans (ha k hkl)).trans (by rw [List.getElem?_eq_getElem hkl,List.getD_eq_getElem?_getD,List.getElem?_eq_getElem hkl];rfl)⟩
theorem rdB_at {w:World} {p:Option Addr} {n c:Nat} {l:List Bool} (hu:Rd Value.bool w (.slice p n c) l) (k:Nat) (hk:k<n):∃(b o:Nat),p=some ⟨b,o,none⟩∧∀X,Below w.heap.size w X→X.cell? ⟨b,o+k,none⟩=some (.bool (l.getD k false)):=by
 have hl:=hu.len
 obtain ⟨b,o,rfl,_,_,ha,hlt⟩:=hu.nonempty (by omega)
 have hkl:k<l.length:=by omega
 exact ⟨b,o,rfl,fun X hX=>((hX.cell (p:=⟨b,o+k,none⟩) hlt).trans (ha k hkl)).trans (by rw [List.getElem?_eq_getElem hkl,List.getD_eq_getElem?_getD,List.getElem?_eq_getElem hkl];rfl)⟩
end Go.Proofs.YtncnfncglacheaaGreatDoor
namespace Go.Proofs.YtncnfncglacheaaGreatDoor
open Go Go.RowKit Mem
set_option maxRecDepth 100000
theorem flat_get {α:Type} {K:Nat} (enc:α→List OC):∀(l:List α) (_:∀x∈l,(enc x).length=K) (i:Nat) (hi:i<l.length) (j:Nat),j<(enc l[i]).length→(l.flatMap enc)[i * K+j]?=(enc l[i])[j]?:=by
 intro l
 induction l with
 | nil=>intro _ i hi;simp at hi
 | cons a l ih=>
  intro hk i hi j hj
  rw [List.flatMap_cons]
  cases i with
  | zero=>
   simp only [Nat.zero_mul,Nat.zero_add,List.getElem_cons_zero] at hj ⊢
   rw [List.getElem?_append_left hj]
  | succ i=>
   simp only [List.getElem_cons_succ] at hj ⊢
   have ha:(enc a).length=K:=hk a (List.mem_cons_self ..)
   rw [List.getElem?_append_right (by rw [ha,Nat.succ_mul];omega),ha]
   rw [show (i+1) * K+j - K=i * K+j by rw [Nat.succ_mul];omega]
   exact ih (fun x hx=>hk x (List.mem_cons_of_mem _ hx)) i (by simpa using hi) j hj
theorem flat_len {α:Type} {K:Nat} (enc:α→List OC) (l:List α) (hk:∀x,(enc x).length=K):(l.flatMap enc).length=l.length * K:=by
 induction l with
 | nil=>simp
 | cons a l ih=>rw [List.flatMap_cons,List.length_append,hk,ih,List.length_cons,Nat.succ_mul];omega
def OwnK {α:Type} (K:Nat) (enc:α→List OC) (w:World) (base:Nat) (e:TypeId) (v:Value) (l:List α):Prop:=w.ownsRow base e K v l.length ((l.flatMap enc).map oV)
section
variable {α:Type} {K:Nat} {enc:α→List OC} {w w':World} {base:Nat} {e:TypeId} {v:Value} {l:List α}
theorem OwnK.slice (h:OwnK K enc w base e v l):∃p cap,v= .slice p l.length cap:=by
 rcases h.2 with ⟨rfl,h0⟩ | ⟨g,cap,cur,rfl,_⟩
 ·exact ⟨none,0,by rw [h0]⟩
 ·exact ⟨_,_,rfl⟩
theorem OwnK.grown (h:OwnK K enc w base e v l) {row:Option Nat} (hg:w.grownBy w' row) (hne:∀g,v.ownBlock=some g→some g≠row):OwnK K enc w' base e v l:=by
 refine ⟨h.1,?_⟩
 rcases h.2 with hn | ⟨g,cap,cur,rfl,hbg,hc,rest⟩
 ·exact .inl hn
 ·exact .inr ⟨g,cap,cur,rfl,hbg,(hg.block g (Array.getElem?_eq_some_iff.1 hc).1 (hne g rfl)).trans hc,rest⟩
theorem OwnK.below (h:OwnK K enc w base e v l) {B:Nat} (hb:Below B w w') (hB:∀g,v.ownBlock=some g→g<B):OwnK K enc w' base e v l:=by
 refine ⟨h.1,?_⟩
 rcases h.2 with hn | ⟨g,cap,cur,rfl,hbg,hc,rest⟩
 ·exact .inl hn
 ·exact .inr ⟨g,cap,cur,rfl,hbg,(hb.block g (hB g rfl)).trans hc,rest⟩
theorem OwnK.lt (h:OwnK K enc w base e v l):∀g,v.ownBlock=some g→base≤g∧g<w.heap.size:=by
 intro g hg
 rcases h.2 with ⟨rfl,_⟩ | ⟨g2,cap,cur,rfl,hbg,hc,_⟩
 ·cases hg
 ·cases hg;exact ⟨hbg,(Array.getElem?_eq_some_iff.1 hc).1⟩
theorem OwnK.below' (h:OwnK K enc w base e v l) (hb:Below w.heap.size w w'):OwnK K enc w' base e v l:=h.below hb fun g hg=>(h.lt g hg).2
theorem OwnK.mono (h:OwnK K enc w base e v l) {b':Nat} (hb:b'≤base):OwnK K enc w b' e v l:=by
 refine ⟨h.1,?_⟩
 rcases h.2 with hn | ⟨g,cap,cur,rfl,hbg,rest⟩
 ·exact .inl hn
 ·exact .inr ⟨g,cap,cur,rfl,Nat.le_trans hb hbg,rest⟩
theorem OwnK.rd (h:OwnK K enc w base e v l) (hk:∀x,(enc x).length=K):RdK K enc w v l:=by
 rcases h.2 with ⟨rfl,h0⟩ | ⟨g,cap,cur,rfl,hb,hg,hn,hm,hs,ht⟩
 ·exact .inl ⟨none,rfl,List.length_eq_zero_iff.1 h0⟩
 ·refine .inr ⟨g,0,cap,rfl,hn,fun i hi j hj=> ?_,(Array.getElem?_eq_some_iff.1 hg).1⟩
  have h1:((l.flatMap enc).map oV)[i * K+j]?=(enc l[i])[j]?.map oV:=by
   rw [List.getElem?_map,flat_get enc l (fun x _=>hk x) i hi j hj]
  have hlt:i * K+j<l.length * K:=by
   have:(i+1) * K≤l.length * K:=Nat.mul_le_mul_right K hi
   rw [hk] at hj
   rw [Nat.succ_mul] at this
   omega
  rw [← ht,List.getElem?_take_of_lt hlt] at h1
  unfold World.cell?
  rw [hg]
  simp only [Nat.zero_add]
  show cur[i * K+j]?=_
  rw [← h1]
  simp
theorem OwnK.nil (w:World) (base:Nat) (e:TypeId):OwnK K enc w base e (.slice none 0 0) ([]:List α):=World.ownsRow_nil w base e K
theorem OwnK.new0 (w:World) (base:Nat) (e:TypeId) (hb:base≤w.heap.size):OwnK K enc (w.alloc (.cells #[] e)) base e (.slice (some ⟨w.heap.size,0,none⟩) 0 0) ([]:List α):=
 ⟨by simp, .inr ⟨w.heap.size,0,_,rfl,hb,heap_alloc_new w _,Nat.le_refl _,by unfold maxLen;omega,by simp,by simp⟩⟩
theorem OwnK.type {β:Type} {g:β→Value} {b2:Nat} {e2:TypeId} {v2:Value} {l2:List β} (h1:OwnK K enc w base e v l) (h2:Mem.Own g w b2 e2 v2 l2) (hne:e≠e2):∀k,v.ownBlock=some k→some k≠v2.ownBlock:=by
 intro k hk e
 rcases h1.2 with ⟨rfl,_⟩ | ⟨g1,c1,cur1,rfl,_,hc1,_⟩
 ·cases hk
 ·rcases h2.2 with ⟨rfl,_⟩ | ⟨g2,c2,cur2,rfl,_,hc2,_⟩
  ·cases e
  ·cases hk
   injection e with e
   simp only at e
   subst e
   rw [hc1] at hc2
   injection hc2 with hc2
   injection hc2 with _ hc2
   exact hne hc2
theorem OwnK.row {β:Type} {g:β→Value} {b2:Nat} {e2:TypeId} {l2:List β} (h1:OwnK K enc w base e v l) (h2:Row g w b2 e2 l2) (hne:e≠e2):∀k,v.ownBlock=some k→k≠b2:=by
 rintro k hk rfl
 rcases h1.2 with ⟨rfl,_⟩ | ⟨g1,c1,cur1,rfl,_,hc1,_⟩
 ·cases hk
 ·cases hk
  unfold Row at h2
  rw [hc1] at h2
  injection h2 with hc2
  injection hc2 with _ hc2
  exact hne hc2
theorem own_row {β:Type} {f:α→Value} {g:β→Value} {b2:Nat} {e2:TypeId} {l2:List β} (h1:Mem.Own f w base e v l) (h2:Row g w b2 e2 l2) (hne:e≠e2):∀k,v.ownBlock=some k→k≠b2:=by
 rintro k hk rfl
 rcases h1.2 with ⟨rfl,_⟩ | ⟨g1,c1,cur1,rfl,_,hc1,_⟩
 ·cases hk
 ·cases hk
  unfold Row at h2
  rw [hc1] at h2
  injection h2 with hc2
  injection hc2 with _ hc2
  exact hne hc2
end
structure EltK (P:Program) (t e:TypeId) (K bytes:Nat):Prop where
 ht:P.underlying t=some (.slice e)
 hi:∃i z,P.info? e=some i∧i.zero=some z∧i.size=K∧i.bytes=bytes∧z.cells.size=K
theorem EltK.mk' {P:Program} {t e:TypeId} {K bytes:Nat} {z:Value} (ht:P.underlying t=some (.slice e)) (h:(P.info? e).map (fun i=>(i.zero,i.size,i.bytes))=some (some z,K,bytes)) (hz:z.cells.size=K):EltK P t e K bytes:=by
 obtain ⟨i,h1,h2,h3,h4⟩:=info_parts h
 exact ⟨ht,i,z,h1,h2,h3,h4,hz⟩
section
variable {α:Type} {K:Nat} {enc:α→List OC} {w:World} {base:Nat} {e:TypeId} {v:Value} {l:List α}
variable {P:Program} {ops:Array Oper} {rest:List Oper} {o:Oper} {a:Act} {Q:Exit→Act→World→Prop}
theorem append_k {t:TypeId} {bytes:Nat} (E:EltK P t e K bytes) (hK:0<K) (hk:∀x,(enc x).length=K) (s x:Operand) (hgd:o.guard=none) (ho:o.op= .call {callee:= .builtin .append,args:= #[s,x],argTypes:= #[t,t]})
  (hs:a.eval s=v) (hown:OwnK K enc w base e v l) (y:α) (C:Array Value) (hC:C=((enc y).map oV).toArray) (e1:TypeId) (hx:a.eval x= .slice (some ⟨w.heap.size,0,none⟩) 1 1)
  (hn:(l.length+1) * bytes≤140737488355328) (hn2:l.length+1≤140737488355328) (hbase:base≤w.heap.size) (r:List α) (hr:l++[y]=r)
  (h:∀p cap w',OwnK K enc w' base e (.slice p r.length cap) r→Below base w w'→(w.alloc (.cells C e1)).grownBy w' v.ownBlock→wpList P ops Q rest (a.put o.dst (.slice p r.length cap)) w'):
  wpList P ops Q (o::rest) a (w.alloc (.cells C e1)):=by
 subst hC
 obtain ⟨i,z,hi,hz,hs1,hby,hz1⟩:=E.hi
 have hown':(w.alloc (.cells ((enc y).map oV).toArray e1)).ownsRow base e K v l.length ((l.flatMap enc).map oV):=World.ownsRow.alloc hown _
 have hrow:Row oV (w.alloc (.cells ((enc y).map oV).toArray e1)) w.heap.size e1 (enc y):=Row.new _ _ rfl
 refine wpList_append_own _ hgd s x t ho base e i z K bytes E.ht hi hz hs1 hby hz1 hK v l.length ((l.flatMap enc).map oV) hs hown' ⟨w.heap.size,0,none⟩ 1 1 ((enc y).map oV) hx (by simp [hk]) ?_ ?_ (by unfold maxLen;omega) hn (by simp;omega) ?_
 ·intro j u hj
  have h2:((⟨w.heap.size,0,none⟩:Addr).add j)=⟨w.heap.size,j,none⟩:=by unfold Addr.add;split<;>simp_all
  rw [h2,hrow.cell?,← hj,List.getElem?_map]
 ·intro u hu
  obtain ⟨z,_,rfl⟩:=List.mem_map.1 hu
  exact z.2
 ·intro v' w1 hown2 hg hnil
  have ho':OwnK K enc w1 base e v' r:=by
   unfold OwnK
   rw [← hr,List.length_append,List.flatMap_append,List.map_append]
   simpa using hown2
  obtain ⟨p,cap,rfl⟩:=ho'.slice
  exact h p cap w1 ho' (((Below.refl base w).alloc hbase _).trans ((Below.refl base _).grown hg (by simp;omega) (fun k hk=>(hown.lt k hk).1))) hg
end
theorem list_split {α:Type} (l:List α) (k:Nat) (h:k<l.length):l=l.take k++l[k]::l.drop (k+1):=by
 rw [← List.drop_eq_getElem_cons h,List.take_append_drop]
theorem ownK_cells {α:Type} {K:Nat} {enc:α→List OC} (hk:∀x,(enc x).length=K) (l:List α) (k:Nat) (h:k<l.length) (y:α) (cur:List Value) (hs:l.length * K≤cur.length) (hc:cur.take (l.length * K)=(l.flatMap enc).map oV):
  (cur.take (k * K)++(enc y).map oV++cur.drop (k * K+K)).take (l.length * K)=((l.set k y).flatMap enc).map oV∧(cur.take (k * K)++(enc y).map oV++cur.drop (k * K+K)).length=cur.length:=by
 have e1:=list_split l k h
 have hset:l.set k y=l.take k++y::l.drop (k+1):=by rw [List.set_eq_take_append_cons_drop,if_pos h]
 have hkl:k * K+K≤l.length * K:=by
  have:=Nat.mul_le_mul_right K (show k+1≤l.length by omega)
  rw [Nat.add_mul,Nat.one_mul] at this
  exact this
 have hA:((l.take k).flatMap enc).length=k * K:=by rw [flat_len enc _ hk,List.length_take];congr 1;omega
 have hC:((l.drop (k+1)).flatMap enc).length=l.length * K - (k * K+K):=by
  rw [flat_len enc _ hk,List.length_drop,Nat.sub_mul,Nat.add_mul,Nat.one_mul]
 have hF:l.flatMap enc=(l.take k).flatMap enc++(enc l[k]++(l.drop (k+1)).flatMap enc):=by
  have e2:(l.take k++l[k]::l.drop (k+1)).flatMap enc=l.flatMap enc:=by rw [← e1]
  rw [← e2,List.flatMap_append,List.flatMap_cons]
 have hcur:cur=(l.flatMap enc).map oV++cur.drop (l.length * K):=by rw [← hc,List.take_append_drop]
 rw [hset]
 rw [hF,List.map_append,List.map_append] at hcur
 generalize cur.drop (l.length * K)=R at hcur
 have h1:cur.take (k * K)=((l.take k).flatMap enc).map oV:=by
  rw [hcur,List.append_assoc,List.take_append_of_le_length (by rw [List.length_map,hA];exact Nat.le_refl _),List.take_of_length_le (by rw [List.length_map,hA];exact Nat.le_refl _)]
 have h2:cur.drop (k * K+K)=((l.drop (k+1)).flatMap enc).map oV++R:=by
  rw [hcur,List.append_assoc,List.append_assoc,← List.drop_drop,List.drop_left' (by rw [List.length_map,hA]),List.drop_left' (by rw [List.length_map,hk])]
 rw [h1,h2]
 refine ⟨?_,?_⟩
 ·rw [← List.append_assoc,List.take_left']
  ·simp
  ·simp only [List.length_append,List.length_map,hA,hC,hk];omega
 ·have:=congrArg List.length hcur
  simp only [List.length_append,List.length_map,hA,hC,hk] at this ⊢
  omega
section
variable {α:Type} {K:Nat} {enc:α→List OC} {w:World} {base:Nat} {e:TypeId} {l:List α}
variable {P:Program} {ops:Array Oper} {rest:List Oper} {o:Oper} {a:Act} {Q:Exit→Act→World→Prop}
theorem store_elem {ty:TypeId} (T:AggT P ty K) (hk:∀x,(enc x).length=K) (x y:Operand) (hgd:o.guard=none) (ho:o.op= .store ty x y) (g n c k off:Nat) (hoff:off=k * K) (hx:a.eval x= .pointer (some ⟨g,off,none⟩))
  (z:α) {C:Array Value} (hC:C=((enc z).map oV).toArray) (hy:a.eval y= .agg C) (h:OwnK K enc w base e (.slice (some ⟨g,0,none⟩) n c) l) (hkl:k<l.length)
  (hK:∀w',OwnK K enc w' base e (.slice (some ⟨g,0,none⟩) n c) (l.set k z)→w.grownBy w' (some g)→wpList P ops Q rest (a.put o.dst undef) w'):wpList P ops Q (o::rest) a w:=by
 subst hC hoff
 rcases h.2 with ⟨h0,_⟩ | ⟨g2,cap,cur,he,hbg,hc,hn,hm,hs,ht⟩
 ·cases h0
 ·injection he with he1 he2 he3
  injection he1 with he1
  injection he1 with he1 _ _
  subst he1 he2 he3
  have hsz:l.length * K≤cur.toList.length:=by
   rw [Array.length_toList (xs:=cur),hs]
   exact Nat.mul_le_mul_right K hn
  obtain ⟨c1,c2⟩:=ownK_cells hk l k hkl z cur.toList hsz ht
  have hkK:k * K+K≤l.length * K:=by
   have:=Nat.mul_le_mul_right K (show k+1≤l.length by omega)
   rw [Nat.add_mul,Nat.one_mul] at this
   exact this
  have hrun:=run_storeCells_at P g (k * K) e ((enc z).map oV) 0 cur w hc (by rw [List.length_map,hk];rw [Array.length_toList (xs:=cur)] at hsz;omega) (fun v hv=>by obtain ⟨y,_,rfl⟩:=List.mem_map.1 hv;exact y.2)
  simp only [Nat.add_zero,List.length_map,hk] at hrun
  have hr:(storeVar ty ⟨g,k * K,none⟩ (.agg ((enc z).map oV).toArray)).run P w= .ok () (w.setRow g (cur.toList.take (k * K)++(enc z).map oV++cur.toList.drop (k * K+K)).toArray):=by
   simp [storeVar,Value.cells,Sem.run_bind,T.size,hk]
   simpa using hrun
  refine wpList_plain hgd fun K' hK'=> ?_
  unfold Oper.wp execOp
  simp only [ho,hx,hy,Instr.storeAt,Instr.sureAddr,Sem.run_bind,Sem.run_pure,Result.andThen_ok,hr]
  refine hK' _ _ (hK _ ?_ (setRow_grown w g _))
  unfold OwnK
  rw [List.length_set]
  refine ⟨by rw [List.length_map,flat_len enc _ hk,List.length_set], .inr ⟨g,c,_,rfl,hbg,setRow_heap w g _ _ e (0,0) hc,hn,hm,?_,c1⟩⟩
  rw [List.size_toArray,c2,Array.length_toList (xs:=cur),hs]
end
end Go.Proofs.YtncnfncglacheaaGreatDoor
