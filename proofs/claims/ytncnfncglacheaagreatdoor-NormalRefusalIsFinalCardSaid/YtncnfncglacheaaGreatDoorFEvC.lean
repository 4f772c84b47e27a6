/- Part of a proof. -/
import Derived.Test.YtncnfncglacheaaGreatDoorFEvB
import Derived.Orders
import Derived.StillTail
import Derived.Deep.RegionHeld
import Derived.Deep.Quiet
import Derived.Test.YtncnfncglacheaaGreatDoorFShelf
import Derived.Deep.SlicePairs
import Derived.Outline
import Derived.LoopTactic
import Derived.Deep.DeepCutAuto
import Derived.Laws.IdiomStrings
import Derived.Lib.BufferRead
set_option linter.all false
set_option maxRecDepth 100000
set_option maxHeartbeats 64000000
namespace Go.Proofs.YtncnfncglacheaaGreatDoor
namespace Ev
section
open Go
variable {P:Program}
theorem CQ {ev ev':Operand→AV} {ps:Array (Nat×Operand)} (h:∀x∈(ps.toList.map (·.2)).toArray,ev x=ev' x):iQ ev ps=iQ ev' ps:=by
 unfold iQ;apply qcF;intro p hp;rw [h p.2 (by simp;exact ⟨p.1,by simpa using hp⟩)]
theorem BQ {ev ev':Operand→AV} {v:Option Operand} (h:∀x,v=some x→ev x=ev' x):nK ev v=nK ev' v∧K9 ev v=K9 ev' v:=by
 cases v with
 | none=>exact ⟨rfl,rfl⟩
 | some x=>unfold nK K9;simp only [h x rfl,and_self]
theorem O9 {ev ev':Operand→AV} {op:Op} (h:∀x∈op.operands,ev x=ev' x):xR P ev op=xR P ev' op:=by
 cases op<;>simp only [Op.operands] at h<;>simp only [xR]
 case move x=>rw [h x (by simp)]
 case assign x=>rw [h x (by simp)]
 case pick c a b=>rw [h c (by simp),h a (by simp),h b (by simp)]
 case build t ps=>rw [CQ h]
 case nilCheck x=>rw [h x (by simp)]
 case binOp op t x y _=>rw [h x (by simp),h y (by simp)]
 case unOp op t x=>rw [h x (by simp)]
 case makeInterface t x=>rw [h x (by simp)]
 case makeFunc fn a c=>
  unfold uj;have h1:c.toList.map ev=c.toList.map ev':=qcF fun x hx=>h x (by simp;exact .inr (by simpa using hx));have h2:a.toList.map ev=a.toList.map ev':=qcF fun x hx=>h x (by simp;exact .inl (by simpa using hx));rw [h1,h2]
 case slice t x lo hi mx=>
  have h1:=h x (by simp);have h2:=BQ (ev:=ev) (ev':=ev') (v:=lo) (fun y hy=>h y (by subst hy;simp));have h3:=BQ (ev:=ev) (ev':=ev') (v:=hi) (fun y hy=>h y (by subst hy;simp));cases mx with
  | none=>simp only;unfold Dx;rw [h1,h2.1,h2.2,h3.1,h3.2]
  | some _=>rfl
 case fieldAddr t x f=>rw [h x (by simp)]
 case field t x f=>rw [h x (by simp)]
 case indexAddr t x i=>rw [h x (by simp),h i (by simp)]
 case index t x i=>rw [h x (by simp),h i (by simp)]
 case typeAssert x t u ok=>rw [h x (by simp)]
 case extract x i=>rw [h x (by simp)]
theorem OZ {ev ev':Operand→AV} {op:Op} (h:∀x∈op.operands,ev x=ev' x) (lim:Nat) (hp:H) (nx:Nat) (ty:TypeId):oC P lim ev hp nx ty op=oC P lim ev' hp nx ty op:=by
 cases op<;>simp only [Op.operands] at h<;>simp only [oC]
 case box t x=>rw [h x (by simp)]
 case buildSlice t n ps=>rw [CQ h]
 case load t x=>rw [h x (by simp)]
 case store t x y=>rw [h x (by simp),h y (by simp)]
 case convert s d x=>rw [h x (by simp)]
 case makeSlice t x y=>rw [h x (by simp),h y (by simp)]
 case makeMap t r=>
  cases r with
  | none=>rfl
  | some x=>simp only [lK];rw [h x (by simp)]
 case lookup t m k ok=>rw [h m (by simp),h k (by simp)]
 case mapUpdate t m k x=>rw [h m (by simp),h k (by simp),h x (by simp)]
 case insert t m k x=>rw [h m (by simp),h k (by simp),h x (by simp)]
 case call c=>
  obtain ⟨callee,args,at'⟩:=c;cases callee with
  | builtin b=>
   have:args.toList.map ev=args.toList.map ev':=qcF fun x hx=>h x (by simp [Call.operands];simpa using hx);simp only [this]
  | _=>rfl
theorem Od {ev ev':Operand→AV} {op:Op} (h:∀x∈op.operands,ev x=ev' x):kW ev op=kW ev' op:=by
 have gen:∀l:List Operand,(∀x∈l,ev x=ev' x)→(l.flatMap fun x=>fP (ev x))=l.flatMap fun x=>fP (ev' x):=fun l hl=>by
  induction l with
  | nil=>rfl
  | cons x l ih=>rw [Md,Md,hl x Bq,ih fun y hy=>hl y (Ic _ hy)]
 have dflt:(op.operands.toList.flatMap fun x=>fP (ev x),([]:List Nat))=(op.operands.toList.flatMap fun x=>fP (ev' x),[]):=by rw [gen _ fun x hx=>h x (by simpa using hx)]
 cases op
 case load t x=>simp only [kW];rw [h x (by simp [Op.operands])]
 case store t x y=>simp only [kW];rw [h x (by simp [Op.operands])]
 case convert s d x=>simp only [kW];rw [h x (by simp [Op.operands])]
 case mapUpdate t m k x=>simp only [kW];rw [h m (by simp [Op.operands])]
 case insert t m k x=>simp only [kW];rw [h m (by simp [Op.operands])]
 case call c=>
  obtain ⟨callee,args,at'⟩:=c;cases callee with
  | builtin b=>
   have ha:∀x∈args.toList,ev x=ev' x:=fun x hx=>h x (by simp [Op.operands,Call.operands];simpa using hx);cases b
   case append=>
    simp only [kW];rw [gen _ ha];cases hl:args.toList with
    | nil=>rfl
    | cons a l=>simp only;rw [ha a (by rw [hl];exact Bq)]
   all_goals exact dflt
  | _=>exact dflt
 all_goals exact dflt
theorem Yy {ev:Operand→AV} {op:Op}:∀k∈(kW ev op).2,k∈(kW ev op).1:=by
 intro k hk;cases op
 case store t x y=>exact hk
 case convert s d x=>exact hk
 case mapUpdate t m k x=>exact hk
 case insert t m k x=>exact hk
 case call c=>
  obtain ⟨callee,args,at'⟩:=c;cases callee with
  | builtin b=>
   cases b
   case append=>
    simp only [kW] at hk ⊢;cases hl:args.toList with
    | nil=>rw [hl] at hk;cases hk
    | cons a l=>rw [hl] at hk;rw [Md];exact Vk _ hk
   all_goals cases hk
  | _=>cases hk
 all_goals cases hk
theorem Ot {f:F} {ops:Array Oper} {t:T AV} {tm:Array Value} {o:Oper} {b:Bool} (h:∀j w d,o.guard=some (j,w)→(ops[j]?).bind (·.dst)=some d→VR f (iE t d) (tm.getD d undef)) (hw:gp ops t o=some b):Region.wanted o (yielded ops tm)=b:=by
 cases hg:o.guard with
 | none=>
  unfold gp at hw;unfold Region.wanted;rw [hg] at hw ⊢;simpa using hw
 | some g=>
  obtain ⟨j,want⟩:=g;cases hd:(ops[j]?).bind (·.dst) with
  | none=>
   unfold gp at hw;rw [hg] at hw;simp only [hd] at hw;cases hw
  | some d=>
   have hk:=h j want d hg hd;unfold gp at hw;unfold Region.wanted;rw [hg] at hw ⊢;simp only [hd] at hw ⊢;unfold yielded;rw [hd];unfold iE at hk;simp only [JN];split at hw
   ·rename_i x hx;simp only [az] at hw;rw [hx] at hk;simp only [qE] at hk;generalize hv:tm.getD d undef=u at hk;cases hk
    have:tm[d]?=some (.bool x):=by
     rw [si] at hv;cases he:tm[d]? with
     | none=>rw [he] at hv;cases hv
     | some y=>rw [he] at hv;simp only [qE] at hv;rw [hv]
    rw [this];simpa using hw
   ·rename_i x hx;simp only [az] at hw;subst hw;rw [hx] at hk;simp only [qE] at hk;generalize hv:tm.getD d undef=u at hk;cases hk;cases he:tm[d]? with
    | none=>rfl
    | some y=>
     rw [si,he] at hv;simp only [qE] at hv;subst hv;rfl
   ·cases hw
structure Tr (P:Program) (lim:Nat) (call:aZ) (all:Array Oper) (sz i0:Nat) (pl:List (Oper×Nat×Bool)) (T:Nat→T AV) (C:Nat→H) (A:Nat→List AE) (N:Nat→Nat) (V:Nat→AV) (X:Nat→Bool):Prop where
 step:∀i o an tot,pl[i]?=some (o,an,tot)→qH (T (i0+i)) sz o.dst (V (i0+i))=some (T (i0+i+1))∧
  ((X (i0+i)=false∧gp all (T (i0+i)) o=some false∧V (i0+i)=pG∧C (i0+i+1)=C (i0+i)∧A (i0+i+1)=A (i0+i)∧N (i0+i+1)=N (i0+i))∨
  (X (i0+i)=true∧gp all (T (i0+i)) o=some true∧uZ P lim call (T (i0+i)) (C (i0+i)) (A (i0+i)) (N (i0+i)) (i0+i) o an tot=some (V (i0+i),C (i0+i+1),N (i0+i+1),A (i0+i+1))))
theorem trace {lim:Nat} {call:aZ} {all:Array Oper} {sz:Nat}:∀(pl:List (Oper×Nat×Bool)) (i0:Nat) (t:T AV) (h:H) (Al:List AE) (nx:Nat) (t':T AV) (h':H) (nx':Nat),nG P lim call all sz pl i0 t h Al nx=some (t',h',nx')→
  ∃T C A N V X,Tr P lim call all sz i0 pl T C A N V X∧T i0=t∧C i0=h∧A i0=Al∧N i0=nx∧T (i0+pl.length)=t'∧C (i0+pl.length)=h'∧N (i0+pl.length)=nx':=by
 intro pl
 induction pl with
 | nil=>
  intro i0 t h Al nx t' h' nx' he;simp only [nG,az,bJ] at he;obtain ⟨rfl,rfl,rfl⟩:=he;exact ⟨fun _=>t,fun _=>h,fun _=>Al,fun _=>nx,fun _=>pG,fun _=>false,⟨fun i o an tot hi=>by simp at hi⟩,rfl,rfl,rfl,rfl,rfl,rfl,rfl⟩
 | cons p pl ih=>
  intro i0 t h Al nx t' h' nx' he;obtain ⟨o,an,tot⟩:=p
  have fin:∀(x:Bool) (v:AV) (t2:T AV) (h2:H) (A2:List AE) (n2:Nat),qH t sz o.dst v=some t2→((x=false∧gp all t o=some false∧v=pG∧h2=h∧A2=Al∧n2=nx)∨(x=true∧gp all t o=some true∧uZ P lim call t h Al nx i0 o an tot=some (v,h2,n2,A2)))→nG P lim call all sz pl (i0+1) t2 h2 A2 n2=some (t',h',nx')→∃T C A N V X,Tr P lim call all sz i0 ((o,an,tot)::pl) T C A N V X∧T i0=t∧C i0=h∧A i0=Al∧N i0=nx∧T (i0+((o,an,tot)::pl).length)=t'∧C (i0+((o,an,tot)::pl).length)=h'∧N (i0+((o,an,tot)::pl).length)=nx':=by
   intro x v t2 h2 A2 n2 hp hx he2;obtain ⟨T,C,A,N,V,X,⟨hs⟩,e1,e2,e3,e4,e5,e6,e7⟩:=ih _ _ _ _ _ _ _ _ he2;refine ⟨fun j=>if j=i0 then t else T j,fun j=>if j=i0 then h else C j,fun j=>if j=i0 then Al else A j,fun j=>if j=i0 then nx else N j,fun j=>if j=i0 then v else V j,fun j=>if j=i0 then x else X j,⟨fun i o' an' tot' hi=> ?_⟩,aC rfl,aC rfl,aC rfl,aC rfl,?_,?_,?_⟩
   ·cases i with
    | zero=>
     simp only [YB,az,bJ] at hi;obtain ⟨rfl,rfl,rfl⟩:=hi;simp only [x8,wT,show i0+1≠i0 from by omega,qV];rw [e1,e2,e3,e4];exact ⟨hp,hx⟩
    | succ i=>
     have h1:=hs i o' an' tot' (by simpa using hi);have n1:i0+(i+1)≠i0:=by omega
     have n2:i0+(i+1)+1≠i0:=by omega
     simp only [n1,n2,qV];rw [show i0+(i+1)=i0+1+i from by omega];exact h1
   ·simp only [nQ];rw [aF (by omega),← e5];congr 1;omega
   ·simp only [nQ];rw [aF (by omega),← e6];congr 1;omega
   ·simp only [nQ];rw [aF (by omega),← e7];congr 1;omega
  unfold nG at he;split at he
  ·cases he
  ·rename_i hw;split at he
   ·rename_i t2 hp;exact fin false pG t2 h Al nx hp (.inl ⟨rfl,hw,rfl,rfl,rfl,rfl⟩) he
   ·cases he
  ·rename_i hw;split at he
   ·cases he
   ·rename_i v h2 n2 A2 hs;split at he
    ·rename_i t2 hp;exact fin true v t2 h2 A2 n2 hp (.inr ⟨rfl,hw,hs⟩) he
    ·cases he
end
section
open Go
variable {P:Program}
structure Rec where
 FF:Nat→Prop
 DD:Nat→Prop
 hin:H
 hout:H
 W:Nat→Prop
def EI (A:List AE) (n:Nat):Prop:=∀a∈A,(a.top=0→∀k∈a.rd,k<n)∧∀k∈a.wr,k<n
structure Vq (P:Program) (lim:Nat) (t:T AV) (C:H) (A:List AE) (n i:Nat) (o:Oper) (an:Nat) (tot:Bool) (v:AV) (C':H) (n':Nat) (A':List AE) (r:Rec):Prop where
 r1:∀k ob,r.hin.get k=some ob→C.get k=some ob∧r.FF k
 r2:∀k,(r.DD k→C'.get k=r.hout.get k)∧(¬r.DD k→C'.get k=C.get k)
 r4:∀k,r.W k→r.DD k∧lim≤k∧(r.hin.get k).isSome=true
 r5:∀k,n≤k→k<n'→r.DD k
 r6:∀k,r.DD k→(n≤k∧k<n')∨r.FF k
 ent:(A'=A∧(∀k,¬r.DD k)∧∀k,¬r.FF k)∨(∃a,A'=a::A∧a.i=i∧(∀k,r.DD k→k∈a.wr)∧∀k,r.FF k→a.reads k=true∧k<n)∨(A'=A∧tot=true)
 conf:∀a∈A,an.testBit a.i=false→(∀k∈a.wr,¬r.FF k)∧∀k,r.DD k→¬n≤k→a.reads k=false
 hb:JF o.op=false→(∀k,¬r.DD k)∧∀k,¬r.FF k
 ei:EI A' n'
 up:n≤n'
 r3:∀(f:F) (w:World) (tm:Array Value),HR f r.hin.get w→(∀x∈o.op.operands,VR f (bZ t x) (dO tm x))→(∀k,n≤k→k<n'→f k=none)→
  ∀(b:Frame) (k:List Item) (cs:List Frame) (ds:List Deferred) (ops:Array Oper) (j:Nat) (rest:List Nat),ops[j]?=some o→Region.wanted o (yielded ops tm)=true→
   ∃f' w' u,Post f r.W r.hin n n' w f' r.hout w'∧VR f' v u∧Steps P (lone (fr b tm ds (.inRegion ops (j::rest)::k)) cs w) (lone (fr b (lC tm o.dst u) ds (.inRegion ops rest::k)) cs w')
theorem contains_iff {l:List Nat} {k:Nat}:l.contains k=true↔k∈l:=by simp
open Classical in
theorem Sv {f:F} {t:T AV} {tm:Array Value} {op:Op} (h:∀x∈op.operands,VR f (bZ t x) (dO tm x)):∃ev':Operand→AV,(∀x∈op.operands,bZ t x=ev' x)∧∀x,VR f (ev' x) (dO tm x):=
 ⟨fun x=>if x∈op.operands then bZ t x else .lit (dO tm x),fun x hx=>by simp [hx],fun x=>by
  by_cases hx:x∈op.operands
  ·simp only [hx,wT];exact h x hx
  ·simp only [hx,qV];exact .lit _⟩
theorem aaO (hgo:yU P=true) {lim:Nat} {call:aZ} (hc:uJ P call) (mc:GC call) {t:T AV} {C:H} {A:List AE} {n i:Nat} {o:Oper} {an:Nat} {tot:Bool} {v:AV} {C':H} {n':Nat} {A':List AE} (hlim:lim≤n) (hbd:BD C n) (MG:EI A n)
  (hs:uZ P lim call t C A n i o an tot=some (v,C',n',A')):∃r,Vq P lim t C A n i o an tot v C' n' A' r:=by
 have hup:=EJ mc hs;unfold uZ at hs;split at hs
 ·rename_i hbf;split at hs
  ·rename_i v' hp;simp only [az,bJ] at hs;obtain ⟨rfl,rfl,rfl,rfl⟩:=hs;refine ⟨⟨fun _=>False,fun _=>False, .e, .e,fun _=>False⟩,fun k ob h=>(by cases h),fun k=>⟨fun h=>h.elim,fun _=>rfl⟩,fun k h=>h.elim,fun k a b=>(by omega),fun k h=>h.elim, .inl ⟨rfl,fun _ h=>h,fun _ h=>h⟩,fun a _ _=>⟨fun _ _ h=>h,fun _ h=>h.elim⟩,fun _=>⟨fun _ h=>h,fun _ h=>h⟩,MG,ah _,fun f w tm H0 hv hn=> ?_⟩;obtain ⟨ev',e1,e2⟩:=Sv hv;rw [O9 e1] at hp;obtain ⟨u,h1,h2⟩:=BN (w:=w) e2 hp;exact fun b k cs ds ops j rest ho hw=>⟨f,w,u,Post.same H0,h2, .one (zK ho hw (yR hp) h1)⟩
  ·cases hs
 ·rename_i hbt;split at hs
  ·
   rename_i hco;unfold zA at hs;split at hs
   ·rename_i v' h' n2 hh;split at hs
    ·rename_i Qy;simp only [az,bJ] at hs;obtain ⟨rfl,rfl,rfl,rfl⟩:=hs;rw [cZ,qQ,qQ] at Qy;obtain ⟨hlt,hcf⟩:=Qy;generalize hfw:kW (bZ t) o.op=fw at hh hlt hcf;have hsub:∀k∈fw.2,k∈fw.1:=by rw [← hfw];exact Yy
     have hmem:∀k,k∈fw.2++mV (n2 - n) n↔k∈fw.2∨(n≤k∧k<n2):=fun k=>by rw [sj,uy];constructor<;>rintro (h | h)<;>first | exact .inl h | exact .inr (by omega)
     have hlt':∀k∈fw.1,k<n:=fun k hk=>iq.1 (hlt k hk);refine ⟨⟨fun k=>k∈fw.1,fun k=>k∈fw.2∨(n≤k∧k<n2),eO C .e fw.1,h',LW lim (eO C .e fw.1) fw.2⟩,fun k ob h=> ?_,fun k=>⟨fun h=> ?_,fun h=> ?_⟩,fun k h=>⟨.inl h.2.1,h.1,h.2.2⟩,fun k a b=> .inr ⟨a,b⟩,fun k h=>h.elim (fun h=> .inr (hsub k h)) .inl, .inr (.inl ⟨_,rfl,rfl,fun k h=>(hmem k).2 h,fun k h=>⟨?_,hlt' k h⟩⟩),fun a ha hna=>⟨fun k hk hf=> ?_,fun k hd hnn=> ?_⟩,fun e=>(by rw [e] at hbt;cases hbt),fun a ha=> ?_,hup,fun f w tm H0 hv hn=> ?_⟩
     ·rw [dh] at h;split at h
      ·exact ⟨h,by assumption⟩
      ·cases h
     ·rw [dh,aC ((hmem k).2 h)]
     ·rw [dh,aF (fun e=>h ((hmem k).1 e))]
     ·simp only [AE.reads];exact contains_iff.2 h
     ·have:=hcf a ha;rw [hna,Cz,cZ] at this;have h1:=this.1;rw [XP,Xw] at h1;exact h1 k hf (contains_iff.2 hk)
     ·have:=hcf a ha;rw [hna,Cz,cZ] at this;have h2:=this.2;rw [XP,Xw] at h2;rcases hd with hd | hd
      ·simpa using h2 k hd
      ·exact absurd hd.1 hnn
     ·rcases nA.1 ha with rfl | ha
      ·refine ⟨fun _ k hk=>bO (hlt' k hk) hup,fun k hk=> ?_⟩;rcases (hmem k).1 hk with h | h
       ·exact bO (hlt' k (hsub k h)) hup
       ·exact h.2
      ·exact ⟨fun e k hk=>bO ((MG a ha).1 e k hk) hup,fun k hk=>bO ((MG a ha).2 k hk) hup⟩
     ·obtain ⟨ev',e1,e2⟩:=Sv hv;rw [OZ e1] at hh;rw [Od e1] at hfw;obtain ⟨f',r,w',u,h1,h2,h3,h4⟩:=Dt H0 e2 hh hn;rw [hfw] at h2;refine fun b k cs ds ops j rest ho hw=>⟨f',w',u,h2,h4,?_⟩;rcases h3 with rfl | ⟨rfl,rfl⟩
      ·exact .one (zK ho hw (nH hh) h1)
      ·exact .one (Gq ho hw (nH hh) h1)
    ·cases hs
   ·cases hs
  ·
   rename_i fo args hco;obtain ⟨ar,at',hop,rfl⟩:=Cg hco;have hdf:lY o.op=false:=by rw [hop];rfl
   split at hs
   ·rename_i g args' hca
    have snd:∀(lim':Nat) (hin h':H) (n2:Nat) (v:AV),lim'≤n→BD hin n→call lim' g args' hin n=some (false,v,h',n2)→∀(f:F) (w:World) (tm:Array Value),HR f hin.get w→(∀x∈o.op.operands,VR f (bZ t x) (dO tm x))→(∀k,n≤k→k<n2→f k=none)→
      ∀(b:Frame) (k:List Item) (cs:List Frame) (ds:List Deferred) (ops:Array Oper) (j:Nat) (rest:List Nat),ops[j]?=some o→Region.wanted o (yielded ops tm)=true→
      ∃f' w' u,dM f lim' hin n n2 w f' h' w'∧VR f' v u∧Steps P (lone (fr b tm ds (.inRegion ops (j::rest)::k)) cs w) (lone (fr b (lC tm o.dst u) ds (.inRegion ops rest::k)) cs w'):=by
     intro lim' hin h' n2 v hl hb hcall f w tm H0 hv hn;have ahd:=hv fo (by rw [hop];simp [Op.operands,Call.operands])
     have agE:bg f (ar.toList.map (bZ t)) (ar.toList.map (dO tm)):=by
      have:∀l:List Operand,(∀x∈l,VR f (bZ t x) (dO tm x))→bg f (l.map (bZ t)) (l.map (dO tm)):=fun l=>by
       induction l with
       | nil=>exact fun _=> .nil
       | cons x l ih=>exact fun h=> .cons (h x Bq) (ih fun y hy=>h y (Ic _ hy))
      exact this _ fun x hx=>hv x (by rw [hop];simp [Op.operands,Call.operands];exact .inr (by simpa using hx))
     obtain ⟨first,vs,huf,hcap⟩:=xq ahd agE hca;obtain ⟨⟨fn,hfn,Q9⟩,r⟩:=hc _ _ _ _ _ _ _ _ _ hcall hl f w _ H0 hb hcap hn;intro b k cs ds ops j rest ho hw;obtain ⟨f',w',u,fr',p,q,s1,s2,s3⟩:=r (fr b tm ds (.inRegion ops (j::rest)::k)::cs);refine ⟨f',w',u,p,q,?_⟩
     have hex:(execOp (dO tm) o).run P w= .ok (.enter g (first++ar.toList.map (dO tm)++vs).toArray) w:=by
      have:=zq hgo hfn Q9 ((first++ar.toList.map (dO tm)++vs).toArray) w;simp only [execOp,hop,resolve,huf,Deferred.ofValue,invoke,dR,iB,fT];rw [← this];congr 2;apply KR;simp
     have:=qcX (c:=fr b tm ds (.inRegion ops (j::rest)::k)) (cs:=cs) s3;rw [jF ho] at this;exact .head (EZ ho hw hdf hex) (s1.trans (.one this))
    unfold zB at hs;split at hs
    ·rename_i Qy;rw [cZ,qQ] at Qy;obtain ⟨htot,htop⟩:=Qy;dsimp only at hs;generalize hout:(A.flatMap fun a=>match an.testBit a.i with | true=>[] | false=>a.rd++a.wr)=out at hs
     have hmo:∀a∈A,an.testBit a.i=false→∀k,k∈a.rd∨k∈a.wr→k∈out:=fun a ha hna k hk=>by
      rw [← hout,UJ];exact ⟨a,ha,by rw [hna];exact sj.2 hk⟩
     have htz:∀a∈A,an.testBit a.i=false→a.top=0:=fun a ha hna=>by
      have:=htop a ha;rw [hna,Cz] at this;exact eF this
     have hol:∀k∈out,k<n:=fun k hk=>by
      rw [← hout,UJ] at hk;obtain ⟨a,ha,hk⟩:=hk;cases hna:an.testBit a.i with
      | true=>rw [hna] at hk;cases hk
      | false=>
       rw [hna] at hk;rcases sj.1 hk with h | h
       ·exact (MG a ha).1 (htz a ha hna) k h
       ·exact (MG a ha).2 k h
     split at hs
     ·rename_i v' h' n2 hcall;simp only [az,bJ] at hs;obtain ⟨rfl,rfl,rfl,rfl⟩:=hs
      have WG:BD (eO .e C out) n:=fun k hk=>by
       rw [dh] at hk;split at hk
       ·cases hk
       ·exact hbd k hk
      refine ⟨⟨fun k=>k∉out,fun k=>k∉out,eO .e C out,h',fun k=>lim≤k∧((eO .e C out).get k).isSome=true⟩,fun k ob h=> ?_,fun k=>⟨fun h=> ?_,fun h=> ?_⟩,fun k h=>⟨fun e=> ?_,h.1,h.2⟩,fun k a b e=> ?_,fun k h=> .inr h, .inr (.inr ⟨rfl,htot⟩),fun a ha hna=>⟨fun k hk hf=>hf (hmo a ha hna k (.inr hk)),fun k hd _=> ?_⟩,fun e=>(by rw [e] at hbt;cases hbt),fun a ha=>⟨fun e k hk=>bO ((MG a ha).1 e k hk) hup,fun k hk=>bO ((MG a ha).2 k hk) hup⟩,hup,snd lim _ _ _ _ hlim WG hcall⟩
      ·rw [dh] at h;split at h
       ·cases h
       ·exact ⟨h,by assumption⟩
      ·rw [dh,aF h]
      ·rw [dh,aC (Classical.not_not.1 h)]
      ·have:=h.2;rw [dh,aC e] at this;cases this
      ·have:=hol k e;omega
      ·cases hr:a.reads k with
       | false=>rfl
       | true=>
        unfold AE.reads at hr;rw [htz a ha hna] at hr;exact absurd (hmo a ha hna k (.inl (contains_iff.1 hr))) hd
     ·cases hs
    ·split at hs
     ·rename_i v' h' n2 hcall;simp only [az,bJ] at hs;obtain ⟨rfl,rfl,rfl,rfl⟩:=hs;generalize hfree:D5 an A=out at hcall ⊢
      have hmo:∀a∈A,an.testBit a.i=false→∀k∈a.wr,k∈out:=fun a ha hna k hk=>by
       rw [← hfree,D5,UJ];exact ⟨a,ha,by rw [hna];exact hk⟩
      have hget:∀k ob,(eO .e C out).get k=some ob→C.get k=some ob∧k<n∧k∉out:=fun k ob h=>by
       rw [dh] at h;split at h
       ·cases h
       ·exact ⟨h,hbd k (by rw [h];rfl),by assumption⟩
      have WG:BD (eO .e C out) n:=fun k hk=>by
       cases hg:(eO .e C out).get k with
       | none=>rw [hg] at hk;cases hk
       | some ob=>exact (hget k ob hg).2.1
      have hrg:∀k,k∈mV (n2 - n) n↔n≤k∧k<n2:=fun k=>by rw [uy];omega
      refine ⟨⟨fun k=>k<n∧k∉out,fun k=>n≤k∧k<n2,eO .e C out,h',fun k=>n≤k∧((eO .e C out).get k).isSome=true⟩,fun k ob h=>⟨(hget k ob h).1,(hget k ob h).2⟩,fun k=>⟨fun h=> ?_,fun h=> ?_⟩,fun k h=> ?_,fun k a b=>⟨a,b⟩,fun k h=> .inl h, .inr (.inl ⟨_,rfl,rfl,fun k h=>(hrg k).2 h,fun k h=>⟨?_,h.1⟩⟩),fun a ha hna=>⟨fun k hk hf=>hf.2 (hmo a ha hna k hk),fun k hd hnn=>absurd hd.1 hnn⟩,fun e=>(by rw [e] at hbt;cases hbt),fun a ha=> ?_,hup,snd n _ _ _ _ (ah _) WG hcall⟩
      ·rw [dh,aC ((hrg k).2 h)]
      ·rw [dh,aF (fun e=>h ((hrg k).1 e))]
      ·have:=WG k h.2;omega
      ·unfold AE.reads
       have hz:Nat.beq n 0=false:=by
        cases hb:Nat.beq n 0 with
        | false=>rfl
        | true=>have:=eF hb;omega
       simp only [hz,cZ,iq,h.1,true_and];simpa using h.2
      ·rcases nA.1 ha with rfl | ha
       ·refine ⟨fun e k hk=> ?_,fun k hk=>((hrg k).1 hk).2⟩;simp only at e hk;rw [← hfree,D5,UJ] at hk;obtain ⟨a,ha,hk⟩:=hk;cases hna:an.testBit a.i with
        | true=>rw [hna] at hk;cases hk
        | false=>rw [hna] at hk;exact bO ((MG a ha).2 k hk) hup
       ·exact ⟨fun e k hk=>bO ((MG a ha).1 e k hk) hup,fun k hk=>bO ((MG a ha).2 k hk) hup⟩
     ·cases hs
   ·cases hs
end
section
open Go
variable {P:Program}
structure Ctx (P:Program) (lim:Nat) (all:Array Oper) (sz n:Nat) (T:Nat→T AV) (C:Nat→H) (A:Nat→List AE) (N:Nat→Nat) (V:Nat→AV) (X:Nat→Bool) (an:Nat→Nat) (tot:Nat→Bool) (R:Nat→Rec):Prop where
 size:all.size=n
 put:∀(i:Nat) (o:Oper),all[i]?=some o→qH (T i) sz o.dst (V i)=some (T (i+1))
 st:∀(i:Nat) (o:Oper),all[i]?=some o→(X i=false∧gp all (T i) o=some false∧V i=pG∧C (i+1)=C i∧N (i+1)=N i)∨
  (X i=true∧gp all (T i) o=some true∧Vq P lim (T i) (C i) (A i) (N i) i o (an i) (tot i) (V i) (C (i+1)) (N (i+1)) (A (i+1)) (R i))
 pair:∀i j,j<i→i<n→X i=true→X j=true→(an i).testBit j=false→(∀k,(R j).DD k→¬(R i).FF k)∧∀k,(R i).DD k→¬(R j).FF k
 lv:∀i,i<n→Live (C i) (C (i+1)) (N i) (N (i+1))
 up:∀i,i<n→N i≤N (i+1)
 ae1:∀i j,i<n→(an i).testBit j=true→j<i
 uses:∀(i:Nat) (o:Oper) (t:Nat),all[i]?=some o→t∈Dh all.toList o→∀(j:Nat) (p:Oper),all[j]?=some p→p.dst=some t→j=i∨(an i).testBit j=true∨(an j).testBit i=true
 ahg:∀(i j:Nat) (o p:Oper) (d:Nat),all[i]?=some o→all[j]?=some p→o.dst=some d→p.dst=some d→i=j
open Classical in
noncomputable def gJ (C:Nat→H) (X:Nat→Bool) (R:Nat→Rec) (S:Nat→Prop):Nat→Nat→Option OB
 | 0,k=>(C 0).get k
 | m+1,k=>if S m∧X m=true∧(R m).DD k then (C (m+1)).get k else gJ C X R S m k
open Classical in
noncomputable def mW (all:Array Oper) (T:Nat→T AV) (V:Nat→AV) (S:Nat→Prop):Nat→Nat→AV
 | 0,k=>iE (T 0) k
 | m+1,k=>if S m∧∃o,all[m]?=some o∧o.dst=some k then V m else mW all T V S m k
section
variable {lim:Nat} {all:Array Oper} {sz n:Nat} {T:Nat→T AV} {C:Nat→H} {A:Nat→List AE} {N:Nat→Nat} {V:Nat→AV} {X:Nat→Bool} {an:Nat→Nat} {tot:Nat→Bool} {R:Nat→Rec}
theorem Ctx.op (c:Ctx P lim all sz n T C A N V X an tot R) {i:Nat} (h:i<n):∃o,all[i]?=some o:=⟨all[i]'(by rw [c.size];exact h),by simp [c.size,h]⟩
theorem Ctx.keep (c:Ctx P lim all sz n T C A N V X an tot R) {i:Nat} (h:i<n) {k:Nat} (hk:¬(X i=true∧(R i).DD k)):(C (i+1)).get k=(C i).get k:=by
 obtain ⟨o,ho⟩:=c.op h;rcases c.st i o ho with ⟨h1,_,_,h2,_⟩ | ⟨h1,_,h2⟩
 ·rw [h2]
 ·exact (h2.r2 k).2 fun e=>hk ⟨h1,e⟩
theorem vM (c:Ctx P lim all sz n T C A N V X an tot R) {S:Nat→Prop} {k:Nat}:∀(m i:Nat),m≤n→i≤m→(∀j,j<m→((S j∧X j=true∧(R j).DD k)↔(j<i∧X j=true∧(R j).DD k)))→gJ C X R S m k=(C i).get k
 | 0,i,_,hi,_=>by rw [show i=0 by omega];rfl
 | m+1,i,hm,hi,hq=>by
  rw [gJ];have q:=hq m (EK m);by_cases him:i=m+1
  ·subst him;by_cases h:S m∧X m=true∧(R m).DD k
   ·rw [aC h]
   ·rw [aF h,vM c m m (by omega) (ah _) (fun j hj=>by rw [hq j (by omega)];constructor<;>rintro ⟨a,b⟩<;>exact ⟨by omega,b⟩)];exact (c.keep (by omega) fun e=>h (q.2 ⟨by omega,e⟩)).symm
  ·rw [aF fun h=>by have:=(q.1 h).1;omega];exact vM c m i (by omega) (by omega) fun j hj=>hq j (by omega)
theorem FX {S:Nat→Prop} {i k:Nat} (hx:X i=true):∀(m:Nat),(∀j,i<j→j<m→S j→X j=true→(R i).DD k→¬(R j).DD k)→¬S i→
  gJ C X R (fun j=>j=i∨S j) m k=(open Classical in if i<m∧(R i).DD k then (C (i+1)).get k else gJ C X R S m k)
 | 0,_,_=>by rw [aF (by omega)];rfl
 | m+1,hj,hi=>by
  have ih:=FX hx m (fun j a b=>hj j a (by omega)) hi;rw [gJ,gJ];by_cases hm:m=i
  ·subst hm;by_cases hd:(R m).DD k
   ·rw [aC ⟨.inl rfl,hx,hd⟩,aC ⟨EK m,hd⟩]
   ·rw [aF fun h=>hd h.2.2,aF fun h=>hd h.2,aF fun h=>hd h.2.2,ih,aF (by omega)]
  ·by_cases h:S m∧X m=true∧(R m).DD k
   ·rw [aC ⟨.inr h.1,h.2⟩,aF,aC h];rintro ⟨a,b⟩;exact hj m (by omega) (EK m) h.1 h.2.1 b h.2.2
   ·rw [aF (fun e=>h ⟨e.1.resolve_left hm,e.2⟩),aF h,ih];by_cases hd:i<m∧(R i).DD k
    ·rw [aC hd,aC ⟨by omega,hd.2⟩]
    ·rw [aF hd,aF fun e=>hd ⟨by omega,e.2⟩]
theorem Gd {S:Nat→Prop} {i k:Nat} (hx:X i=false):∀m,gJ C X R (fun j=>j=i∨S j) m k=gJ C X R S m k
 | 0=>rfl
 | m+1=>by
  rw [gJ,gJ,Gd hx m];by_cases hm:m=i
  ·subst hm;rw [aF (fun h=>by rw [hx] at h;cases h.2.1),aF (fun h=>by rw [hx] at h;cases h.2.1)]
  ·by_cases h:S m∧X m=true∧(R m).DD k
   ·rw [aC ⟨.inr h.1,h.2⟩,aC h]
   ·rw [aF (fun e=>h ⟨e.1.resolve_left hm,e.2⟩),aF h]
theorem Zf {t t':Ev.T AV} {sz:Nat} {d:Option Tmp} {v:AV} (h:qH t sz d v=some t') (k:Nat):iE t' k=if d=some k then v else iE t k:=by
 unfold qH at h;cases d with
 | none=>simp only [az] at h;subst h;simp
 | some d=>
  simp only at h;split at h
  ·simp only [az] at h;subst h;rw [EB];by_cases e:k=d
   ·rw [aC e,aC (by rw [e])]
   ·rw [aF e,aF (fun e2=>e (dJ e2).symm)]
  ·cases h
theorem rM (c:Ctx P lim all sz n T C A N V X an tot R) {S:Nat→Prop} {k:Nat}:∀(m i:Nat),m≤n→i≤m→(∀(j:Nat) (o:Oper),j<m→all[j]?=some o→o.dst=some k→(S j↔j<i))→mW all T V S m k=iE (T i) k
 | 0,i,_,hi,_=>by rw [show i=0 by omega];rfl
 | m+1,i,hm,hi,hq=>by
  rw [mW];obtain ⟨o,ho⟩:=c.op (show m<n by omega);have hp:=Zf (c.put m o ho) k;by_cases him:i=m+1
  ·subst him;rw [hp];by_cases hd:o.dst=some k
   ·rw [aC hd,aC ⟨(hq m o (EK m) ho hd).2 (by omega),o,ho,hd⟩]
   ·rw [aF hd,aF,rM c m m (by omega) (ah _) (fun j p hj hpj hpd=>by rw [hq j p (by omega) hpj hpd];omega)];rintro ⟨_,p,hp1,hp2⟩;rw [ho] at hp1;cases hp1;exact hd hp2
  ·rw [aF,rM c m i (by omega) (by omega) (fun j p hj=>hq j p (by omega))];rintro ⟨h1,p,hp1,hp2⟩;have:=(hq m p (EK m) hp1 hp2).1 h1;omega
theorem Cj {S:Nat→Prop} {i k:Nat} (hds:∀(j:Nat) (p o:Oper),all[j]?=some p→all[i]?=some o→o.dst=some k→p.dst=some k→j=i):∀m,mW all T V (fun j=>j=i∨S j) m k=(open Classical in if i<m∧∃o,all[i]?=some o∧o.dst=some k then V i else mW all T V S m k)
 | 0=>by rw [aF (by omega)];rfl
 | m+1=>by
  rw [mW,mW,Cj hds m];by_cases hm:m=i
  ·subst hm;by_cases hd:∃o,all[m]?=some o∧o.dst=some k
   ·rw [aC ⟨.inl rfl,hd⟩,aC ⟨EK m,hd⟩]
   ·rw [aF fun h=>hd h.2,aF fun h=>hd h.2,aF fun h=>hd h.2,aF fun h=>hd h.2]
  ·by_cases h:S m∧∃o,all[m]?=some o∧o.dst=some k
   ·rw [aC ⟨.inr h.1,h.2⟩,aF,aC h];rintro ⟨_,o,a,b⟩;obtain ⟨_,p,c,d⟩:=h;exact hm (hds m p o c a b d)
   ·rw [aF (fun e=>h ⟨e.1.resolve_left hm,e.2⟩),aF h];by_cases hd:i<m∧∃o,all[i]?=some o∧o.dst=some k
    ·rw [aC hd,aC ⟨by omega,hd.2⟩]
    ·rw [aF hd,aF fun e=>hd ⟨by omega,e.2⟩]
theorem Ctx.upTo (c:Ctx P lim all sz n T C A N V X an tot R):∀(j i:Nat),i≤j→j≤n→N i≤N j
 | 0,i,h,_=>by rw [show i=0 by omega];exact ah _
 | j+1,i,h,hn=>by
  by_cases e:i=j+1
  ·rw [e];exact ah _
  ·exact aL (c.upTo j i (by omega) (by omega)) (c.up j (by omega))
theorem Ctx.aby (c:Ctx P lim all sz n T C A N V X an tot R):∀j,j≤n→Live (C 0) (C j) (N 0) (N j)
 | 0,_=>Live.refl _ _ _
 | j+1,h=>Live.trans (c.aby j (by omega)) (c.lv j (by omega)) (c.upTo j 0 (by omega) (by omega)) (c.up j (by omega))
theorem F5 (c:Ctx P lim all sz n T C A N V X an tot R) {S:Nat→Prop} {k:Nat}:∀m,m≤n→(gJ C X R S m k).isSome=true→((C 0).get k).isSome=true∨(N 0≤k∧k<N n)
 | 0,_,h=> .inl h
 | m+1,hm,h=>by
  rw [gJ] at h;split at h
  ·rcases c.aby (m+1) hm k h with e | e
   ·exact .inl e
   ·exact .inr ⟨e.1,bO e.2 (c.upTo n (m+1) hm (ah _))⟩
  ·exact F5 c m (by omega) h
structure Inv (all:Array Oper) (sz n:Nat) (T:Nat→Ev.T AV) (C:Nat→H) (N:Nat→Nat) (V:Nat→AV) (X:Nat→Bool) (R:Nat→Rec) (lim:Nat) (f0:F) (w0:World) (S:Nat→Prop) (f:F) (w:World) (tm:Array Value):Prop where
 sz:tm.size=sz
 sl:∀k,VR f (mW all T V S n k) (tm.getD k undef)
 hr:HR f (gJ C X R S n) w
 fresh:∀j,j<n→¬S j→∀k,N j≤k→k<N (j+1)→f k=none
 le:F.le f0 f
 new:∀k,f k≠f0 k→N 0≤k∧k<N n
 fr:Fr f0 (fun i=>lim≤i∧((C 0).get i).isSome=true) w0 w
 old:∀i x,f0 i=none→f i=some x→w0.heap.size≤x.1∨∃j y,(lim≤j∧((C 0).get j).isSome=true)∧f0 j=some y∧y.1=x.1
theorem Za (tm:Array Value) (d:Option Tmp) (v:Value) (k:Nat) (hd:∀x,d=some x→x<tm.size):(lC tm d v).getD k undef=if d=some k then v else tm.getD k undef:=by
 cases d with
 | none=>simp [lC]
 | some d=>
  rw [lC,DX _ _ _ _ (hd d rfl)];by_cases e:k=d
  ·rw [aC e,aC (by rw [e])]
  ·rw [aF e,aF (fun e2=>e (dJ e2).symm)]
theorem acY {t t':Ev.T AV} {sz:Nat} {d:Option Tmp} {v:AV} (h:qH t sz d v=some t'):∀x,d=some x→x<sz:=by
 rintro x rfl;unfold qH at h;simp only at h;split at h
 ·exact iq.1 (by assumption)
 ·cases h
theorem Lp (tm:Array Value) (d:Option Tmp) (v:Value):(lC tm d v).size=tm.size:=by cases d<;>simp [lC]
theorem Em (c:Ctx P lim all sz n T C A N V X an tot R) {f0:F} {w0:World} (hf0:∀k,N 0≤k→k<N n→f0 k=none) {S:Nat→Prop} {f:F} {w:World} {tm:Array Value} (I:Inv all sz n T C N V X R lim f0 w0 S f w tm)
  (hS:∀i,i<n→S i→∀j,(an i).testBit j=true→S j) {i:Nat} (hi:i<n) (hni:¬S i) (ha:∀j,(an i).testBit j=true→S j) {o:Oper} (ho:all[i]?=some o):
  ∀(b:Frame) (k:List Item) (cs:List Frame) (ds:List Deferred) (rest:List Nat),∃f' w' tm',Inv all sz n T C N V X R lim f0 w0 (fun j=>j=i∨S j) f' w' tm'∧Steps P (lone (fr b tm ds (.inRegion all (i::rest)::k)) cs w) (lone (fr b tm' ds (.inRegion all rest::k)) cs w'):=by
 have use:∀t,t∈Dh all.toList o→VR f (iE (T i) t) (tm.getD t undef):=fun t ht=>by
  have:=I.sl t
  rwa [rM c n i (ah _) (by omega) (fun j p hj hp hd=> ?_)] at this
  rcases c.uses i o t ho ht j p hp hd with rfl | h | h
  ·exact ⟨fun h=>absurd h hni,fun h=>by omega⟩
  ·exact ⟨fun _=>c.ae1 i j hi h,fun _=>ha j h⟩
  ·exact ⟨fun hs=>absurd (hS j hj hs i h) hni,fun hlt=>by have:=c.ae1 j i hj h;omega⟩
 have wn:∀b,gp all (T i) o=some b→Region.wanted o (yielded all tm)=b:=fun b hw=>by
  refine Ot (fun j want d hg hd=>use d ?_) hw;unfold Dh;rw [hg];have:(all.toList[j]?).bind (·.dst)=some d:=by simpa using hd
  refine List.mem_append_right _ ?_;simp only [this,Option.toList_some,lS]
 have hlt:=acY (c.put i o ho);have hds:∀(k j:Nat) (p o':Oper),all[j]?=some p→all[i]?=some o'→o'.dst=some k→p.dst=some k→j=i:=fun k j p o' h1 h2 h3 h4=>c.ahg j i p o' k h1 h2 h4 h3
 have slots:∀(f':F) (u:Value),F.le f f'→VR f' (V i) u→∀k,VR f' (mW all T V (fun j=>j=i∨S j) n k) ((lC tm o.dst u).getD k undef):=fun f' u hle hu k=>by
  rw [Cj (hds k) n,Za _ _ _ _ (by rw [I.sz];exact hlt)];by_cases hd:o.dst=some k
  ·rw [aC ⟨hi,o,ho,hd⟩,aC hd];exact hu
  ·rw [aF,aF hd]
   ·exact (I.sl k).mono hle
   ·rintro ⟨_,p,hp,hpd⟩;rw [ho] at hp;cases hp;exact hd hpd
 rcases c.st i o ho with ⟨hx,hw,hv,hC,hN⟩ | ⟨hx,hw,hrec⟩
 ·refine fun b k cs ds rest=>⟨f,w,lC tm o.dst undef,⟨by rw [Lp];exact I.sz,slots f undef (F.le_refl f) (by rw [hv];exact .lit _),?_,fun j hj hnj=>I.fresh j hj fun h=>hnj (.inr h),I.le,I.new,I.fr,I.old⟩, .one (Gf ho (wn _ hw))⟩;have:gJ C X R (fun j=>j=i∨S j) n=gJ C X R S n:=funext fun k=>Gd hx n;rw [this];exact I.hr
 ·intro fb fk cs ds rest
  have hval:∀k,(R i).FF k→gJ C X R S n k=(C i).get k:=fun k hk=>by
   refine vM c n i (ah _) (by omega) fun j hj=>⟨?_,?_⟩
   ·rintro ⟨h1,h2,h3⟩;refine ⟨?_,h2,h3⟩;rcases Nat.lt_trichotomy j i with h | rfl | h
    ·exact h
    ·exact absurd h1 hni
    ·have hna:(an j).testBit i=false:=by
      cases hb:(an j).testBit i with
      | false=>rfl
      | true=>exact absurd (hS j hj h1 i hb) hni
     exact absurd hk ((c.pair j i h hj h2 hx hna).2 k h3)
   ·rintro ⟨h1,h2,h3⟩;refine ⟨?_,h2,h3⟩;cases hb:(an i).testBit j with
    | true=>exact ha j hb
    | false=>exact absurd hk ((c.pair i j h1 hi hx h2 hb).1 k h3)
  have hsub:∀k ob,(R i).hin.get k=some ob→gJ C X R S n k=some ob:=fun k ob h=>by
   obtain ⟨h1,h2⟩:=hrec.r1 k ob h;rw [hval k h2,h1]
  have hlast:∀k j,i<j→j<n→S j→X j=true→(R i).DD k→¬(R j).DD k:=fun k j h1 h2 h3 h4 h5 h6=>by
   have hna:(an j).testBit i=false:=by
    cases hb:(an j).testBit i with
    | false=>rfl
    | true=>exact absurd (hS j h2 h3 i hb) hni
   obtain ⟨p1,p2⟩:=c.pair j i h1 h2 h4 hx hna;rcases hrec.r6 k h5 with e | e
   ·obtain ⟨oj,hoj⟩:=c.op h2;rcases c.st j oj hoj with ⟨hxj,_⟩ | ⟨_,_,afp⟩
    ·rw [hxj] at h4;cases h4
    ·rcases afp.r6 k h6 with e2 | e2
     ·have:=c.upTo j (i+1) (by omega) (by omega);omega
     ·exact p1 k h5 e2
   ·exact p2 k h6 e
  have hvs:∀k,gJ C X R (fun j=>j=i∨S j) n k=(open Classical in if (R i).DD k then (R i).hout.get k else gJ C X R S n k):=fun k=>by
   rw [FX hx n (fun j a b=>hlast k j a b) hni];by_cases hd:(R i).DD k
   ·rw [aC ⟨hi,hd⟩,aC hd,(hrec.r2 k).1 hd]
   ·rw [aF fun h=>hd h.2,aF hd]
  obtain ⟨f',w',u,p,hu,hst⟩:=hrec.r3 f w tm (I.hr.sub hsub) (fun x hx=>by
   cases x with
   | tmp t=>exact use t (by unfold Dh;exact Vk _ (List.mem_filterMap.2 ⟨.tmp t,by simpa using hx,rfl⟩))
   | const v=>exact VR.of f v
   | global g=>exact GJ I.hr.gl g
   | func g=>exact .fn .nil .nil) (I.fresh i hi hni) fb fk cs ds all i rest ho (wn _ hw)
  have hlive:∀j,((R i).hin.get j).isSome=true→∃ob,gJ C X R S n j=some ob:=fun j hj=>by
   cases hg:(R i).hin.get j with
   | none=>rw [hg] at hj;cases hj
   | some ob=>exact ⟨ob,hsub j ob hg⟩
  have hW0:∀j,(R i).W j→(∃y,f0 j=some y)→lim≤j∧((C 0).get j).isSome=true:=fun j hj ⟨y,hy⟩=>by
   obtain ⟨_,h2,h3⟩:=hrec.r4 j hj;obtain ⟨ob,xZ⟩:=hlive j h3;rcases F5 c (S:=S) n (ah _) (by rw [xZ];rfl) with e | e
   ·exact ⟨h2,e⟩
   ·rw [hf0 j e.1 e.2] at hy;cases hy
  have key:∀k1 k2 Ru xx x1 x2,(R i).DD k1→¬(R i).DD k2→(R i).hout.get k1=some Ru→gJ C X R S n k2=some xx→f' k1=some x1→f' k2=some x2→x1.1≠x2.1:=by
   intro k1 k2 Ru xx x1 x2 hd1 hd2 h1 h2 hx1 hx2 he;have hne:k1≠k2:=fun e=>hd2 (e▸hd1);obtain ⟨B2,s2,n2,_,g1,_,_⟩:=I.hr.obj k2 xx h2;have:=p.le _ _ g1;rw [hx2] at this;simp only [az] at this;subst this;have hdom:=I.hr.dom k2 _ g1;rcases p.live k1 (by rw [h1];rfl) with e | ⟨e1,e2⟩
   ·obtain ⟨ob,xZ⟩:=hlive k1 e;obtain ⟨B1,s1,n1,_,g2,_,_⟩:=I.hr.obj k1 ob xZ;have:=p.le _ _ g2;rw [hx1] at this;simp only [az] at this;subst this;exact hne (I.hr.inj k1 k2 ob xx _ _ xZ h2 g2 g1 he)
   ·rcases p.old k1 x1 (p.fresh k1 e1 e2) hx1 with h | ⟨j,y,hj,hy,e⟩
    ·simp only at hdom he;omega
    ·obtain ⟨q1,q2,q3⟩:=hrec.r4 j hj;obtain ⟨ob,xZ⟩:=hlive j q3;exact hd2 (I.hr.inj j k2 ob xx _ _ xZ h2 hy g1 (e.trans he)▸q1)
  have hblk:∀k ob x,¬(R i).DD k→gJ C X R S n k=some ob→f k=some x→w'.heap[x.1]?=w.heap[x.1]?:=fun k ob x hd h hx=>by
   refine p.fr.block x.1 (I.hr.dom k x hx) fun j y hj hy e=> ?_;obtain ⟨q1,q2,q3⟩:=hrec.r4 j hj;obtain ⟨xx,xZ⟩:=hlive j q3;exact hd (I.hr.inj j k xx ob _ _ xZ h hy hx e▸q1)
  refine ⟨f',w',lC tm o.dst u,⟨by rw [Lp];exact I.sz,slots f' u p.le hu,⟨fun k ob h=> ?_,fun k1 k2 Ru xx x1 x2 h1 h2 hx1 hx2 he=> ?_,p.hr.dom,p.hr.gl⟩,fun j hj hnj k h1 h2=> ?_,I.le.trans p.le,fun k hk=> ?_,⟨p.fr.os.trans I.fr.os,p.fr.tape.trans I.fr.tape,p.fr.output.trans I.fr.output,aL I.fr.size p.fr.size,fun B hB hne=> ?_⟩,fun k x h1 h2=> ?_⟩,hst⟩
  ·rw [hvs] at h;split at h
   ·exact p.hr.obj k ob h
   ·rename_i hd;obtain ⟨B,s,m,xx,g1,g2,g3⟩:=I.hr.obj k ob h;exact ⟨B,s,m,xx,p.le _ _ g1,by rw [hblk k ob _ hd h g1];exact g2,g3.mono p.le⟩
  ·rw [hvs] at h1 h2;split at h1<;>split at h2
   ·exact p.hr.inj k1 k2 Ru xx x1 x2 h1 h2 hx1 hx2 he
   ·exact absurd he (key k1 k2 Ru xx x1 x2 (by assumption) (by assumption) h1 h2 hx1 hx2)
   ·exact absurd he.symm (key k2 k1 xx Ru x2 x1 (by assumption) (by assumption) h2 h1 hx2 hx1)
   ·obtain ⟨_,_,_,_,g1,_,_⟩:=I.hr.obj k1 Ru h1;obtain ⟨_,_,_,_,g2,_,_⟩:=I.hr.obj k2 xx h2;have e1:=p.le _ _ g1;have e2:=p.le _ _ g2;rw [hx1] at e1;rw [hx2] at e2;simp only [az] at e1 e2;subst e1;subst e2;exact I.hr.inj k1 k2 Ru xx _ _ h1 h2 g1 g2 he
  ·have hji:j≠i:=fun e=>hnj (.inl e)
   have e:f' k=f k:=Xg fun e=>by
    have q:=p.new k e;rcases Ik j i with h | h
    ·have:=c.upTo i (j+1) (by omega) (by omega);omega
    ·have:=c.upTo j (i+1) (by omega) (by omega);omega
   rw [e];exact I.fresh j hj (fun h=>hnj (.inr h)) k h1 h2
  ·by_cases e:f k=f0 k
   ·have:=p.new k (by rw [e];exact hk);have a:=c.upTo i 0 (by omega) (by omega);have b:=c.upTo n (i+1) (by omega) (ah _);omega
   ·exact I.new k e
  ·rw [p.fr.block B (bO hB I.fr.size) (fun j x hj hx=> ?_),I.fr.block B hB hne];cases hf:f0 j with
   | some y=>
    have:=I.le _ _ hf;rw [hx] at this;simp only [az] at this;subst this;exact hne j _ (hW0 j hj ⟨_,hf⟩) hf
   | none=>
    rcases I.old j x hf hx with h | ⟨j2,y,hj2,hy,e⟩
    ·omega
    ·rw [← e];exact hne j2 y hj2 hy
  ·cases hf:f k with
   | some y=>
    have:=p.le _ _ hf;rw [h2] at this;simp only [az] at this;subst this;exact I.old k _ h1 hf
   | none=>
    rcases p.old k x hf h2 with h | ⟨j,y,hj,hy,e⟩
    ·exact .inl (aL I.fr.size h)
    ·cases hg:f0 j with
     | some z=>
      have:=I.le _ _ hg;rw [hy] at this;simp only [az] at this;subst this;exact .inr ⟨j,_,hW0 j hj ⟨_,hg⟩,hg,e⟩
     | none=>
      rw [← e];exact I.old j y hg hy
end
end
section
open Go
variable {P:Program}
theorem Kz (g:Nat→Nat) (j:Nat):∀(l:List Edge) (s:Nat),(l.foldl (WB g) s).testBit j=true→s.testBit j=true∨∃e∈l,Region.binds .any e=true∧(e.on=j∨(g e.on).testBit j=true)
 | [],_,h=> .inl h
 | e::l,s,h=>by
  rw [qc9] at h;rcases Kz g j l _ h with h | ⟨e',h1,h2⟩
  ·cases hb:Region.binds .any e with
   | true=>
    simp only [WB,hb,Nat.testBit_or,Nat.testBit_two_pow,qdc,tT] at h;rcases h with (h | h) | h
    ·exact .inl h
    ·exact .inr ⟨e,Bq,hb, .inl h⟩
    ·exact .inr ⟨e,Bq,hb, .inr h⟩
   | false=>simp only [WB,hb] at h;exact .inl h
  ·exact .inr ⟨e',Ic _ h1,h2⟩
theorem I9:∀(l:List Oper) (acc:List Nat),(∀i,i<acc.length→(qI l acc).getD i 0=acc.getD i 0)∧
  ∀(q:Nat) (o:Oper) (j:Nat),l[q]?=some o→((qI l acc).getD (acc.length+q) 0).testBit j=true→∃e∈o.after.toList,Region.binds .any e=true∧(e.on=j∨(e.on<acc.length+q∧((qI l acc).getD e.on 0).testBit j=true))
 | [],acc=>⟨fun _ _=>rfl,fun q o j h=>by simp at h⟩
 | o::l,acc=>by
  rw [qI];obtain ⟨h1,h2⟩:=I9 l (acc++[M7 acc o]);have hlen:(acc++[M7 acc o]).length=acc.length+1:=by simp
  have hold:∀i,i<acc.length→(acc++[M7 acc o]).getD i 0=acc.getD i 0:=fun i hi=>by
   rw [dD,Ig hi,← dD]
  refine ⟨fun i hi=>by rw [h1 i (by omega),hold i hi],fun q p j hq hb=> ?_⟩;cases q with
  | zero=>
   simp only [YB,az] at hq;subst hq;rw [x8,h1 acc.length (by omega)] at hb
   have:(acc++[M7 acc o]).getD acc.length 0=M7 acc o:=by
    rw [dD,Kk (ah _)];simp
   rw [this] at hb;rcases Kz (fun k=>acc.getD k 0) j _ _ hb with h | ⟨e,he,hbd,hj⟩
   ·simp at h
   ·refine ⟨e,he,hbd,hj.imp id fun h=> ?_⟩
    have hlt:e.on<acc.length:=Xg fun hn=>by
     rw [dD,qX (by omega)] at h;simp at h
    exact ⟨by omega,by rw [h1 e.on (by omega),hold e.on hlt];exact h⟩
  | succ q=>
   obtain ⟨e,he,hbd,hj⟩:=h2 q p j (by simpa using hq) (by rw [hlen];rw [show acc.length+1+q=acc.length+(q+1) by omega];exact hb);exact ⟨e,he,hbd,hj.imp id fun h=>⟨by omega,h.2⟩⟩
theorem rG {ops:List Oper} {i:Nat} {o:Oper} (h:ops[i]?=some o):(i,o)∈Ga ops:=by
 unfold Ga;have hi:i<ops.length:=(Kj.1 h).1;rw [Vu];refine ⟨i,?_⟩;rw [List.getElem?_zip_eq_some];exact ⟨Xm hi,h⟩
theorem Ui {ops:List Oper} {pl:List (Oper×Nat×Bool)} (h:plan ops=some pl):Tp ops (qI ops [])=true∧pl.length=ops.length∧∀i o,ops[i]?=some o→pl[i]?=some (o,(qI ops []).getD i 0,zD ops (qI ops []) i):=by
 have hl:∀(l:List Oper) (acc:List Nat),(qI l acc).length=acc.length+l.length:=fun l=>by
  induction l with
  | nil=>intro acc;rfl
  | cons o l ih=>intro acc;rw [qI,ih];simp;omega
 have hal:=hl ops [];simp only [PS,nR] at hal;unfold plan at h;simp only at h;split at h
 ·rename_i hr;simp only [az] at h;subst h;refine ⟨hr,by simp [hal],fun i o ho=> ?_⟩;have hi:i<ops.length:=(Kj.1 ho).1;rw [jS,bM (by simp [hal,hi])];have e1:ops[i]=o:=(Kj.1 ho).2;simp [List.getElem_zip,e1,dD,bM (show i<(qI ops []).length by omega)]
 ·cases h
section
variable {lim:Nat} {all:Array Oper} {sz:Nat}
theorem QW (hgo:yU P=true) {call:aZ} (hc:uJ P call) (mc:GC call) (hmx:P.follows .mixedOrders=true) {pl:List (Oper×Nat×Bool)} (hpl:plan all.toList=some pl) {t t':T AV} {h h':H} {nx nx':Nat} (he:nG P lim call all sz pl 0 t h [] nx=some (t',h',nx')) (hlim:lim≤nx)
  {f0:F} {w0:World} {tm0:Array Value} (H0:HR f0 h.get w0) (hb:BD h nx) (ht:TR f0 t sz tm0) (hn:∀i,nx≤i→i<nx'→f0 i=none) (τ:Nat):
  ∀(b:Frame) (k:List Item) (cs:List Frame) (ds:List Deferred),∃f' w' tm',dM f0 lim h nx nx' w0 f' h' w'∧TR f' t' sz tm'∧Steps P (lone (fr b tm0 ds (.inRegion all (Region.schedule (P.follows .mixedOrders) all τ)::k)) cs w0.drew) (lone (fr b tm' ds k) cs w'):=by
 intro b k cs ds;obtain ⟨acj,agz,agp⟩:=Ui hpl;obtain ⟨T,C,A,N,V,X,⟨hst⟩,e1,e2,e3,e4,e5,e6,e7⟩:=trace pl 0 _ _ _ _ _ _ _ he;obtain ⟨n,hnn⟩:∃n,n=all.size:=⟨_,rfl⟩
 have hal:all.toList.length=n:=by rw [hnn];simp
 rw [agz,hal,nR] at e5 e6 e7;obtain ⟨an,xB⟩:∃an:Nat→Nat,an=fun i=>(qI all.toList []).getD i 0:=⟨_,rfl⟩
 have hstep:∀i o,all[i]?=some o→qH (T i) sz o.dst (V i)=some (T (i+1))∧((X i=false∧gp all (T i) o=some false∧V i=pG∧C (i+1)=C i∧A (i+1)=A i∧N (i+1)=N i)∨(X i=true∧gp all (T i) o=some true∧uZ P lim call (T i) (C i) (A i) (N i) i o (an i) (zD all.toList (qI all.toList []) i)=some (V i,C (i+1),N (i+1),A (i+1)))):=fun i o ho=>by
  have:=hst i o _ _ (agp i o (by simpa using ho));simp only [nR] at this;rw [xB];exact this
 have hop:∀i,i<n→∃o,all[i]?=some o:=fun i hi=>⟨all[i]'(by omega),by simp [hnn▸hi]⟩
 have hup:∀i,i<n→N i≤N (i+1)∧Live (C i) (C (i+1)) (N i) (N (i+1)):=fun i hi=>by
  obtain ⟨o,ho⟩:=hop i hi;rcases (hstep i o ho).2 with ⟨_,_,_,h1,_,h2⟩ | ⟨_,_,h1⟩
  ·rw [h1,h2];exact ⟨ah _,Live.refl _ _ _⟩
  ·exact ⟨EJ mc h1,Nv mc h1⟩
 have hrec:∀i,i≤n→(BD (C i) (N i)∧EI (A i) (N i)∧lim≤N i):=fun i=>by
  induction i with
  | zero=>exact fun _=>⟨by rw [e2,e4];exact hb,by rw [e3];exact fun a ha=>(by cases ha),by rw [e4];exact hlim⟩
  | succ i ih=>
   intro hi;obtain ⟨h1,h2,h3⟩:=ih (by omega);obtain ⟨u1,u2⟩:=hup i (by omega);refine ⟨fun k hk=>(u2 k hk).elim (fun e=>bO (h1 k e) u1) (·.2),?_,by omega⟩;obtain ⟨o,ho⟩:=hop i (by omega);rcases (hstep i o ho).2 with ⟨_,_,_,_,a1,a2⟩ | ⟨_,_,a1⟩
   ·rw [a1,a2];exact h2
   ·obtain ⟨r,hr⟩:=aaO hgo hc mc h3 h1 h2 a1;exact hr.ei
 have hR:∀i,∃r:Rec,∀o,all[i]?=some o→X i=true→Vq P lim (T i) (C i) (A i) (N i) i o (an i) (zD all.toList (qI all.toList []) i) (V i) (C (i+1)) (N (i+1)) (A (i+1)) r:=fun i=>by
  by_cases hx:∃o,all[i]?=some o∧X i=true
  ·obtain ⟨o,ho,hx⟩:=hx
   have hi:i<n:=by
    have:=(jg.1 ho).1;omega
   obtain ⟨h1,h2,h3⟩:=hrec i (by omega);rcases (hstep i o ho).2 with ⟨a,_⟩ | ⟨_,_,a1⟩
   ·rw [hx] at a;cases a
   ·obtain ⟨r,hr⟩:=aaO hgo hc mc h3 h1 h2 a1;exact ⟨r,fun o' ho' _=>by rw [ho] at ho';cases ho';exact hr⟩
  ·exact ⟨⟨fun _=>False,fun _=>False, .e, .e,fun _=>False⟩,fun o ho hx'=>absurd ⟨o,ho,hx'⟩ hx⟩
 obtain ⟨R,hR⟩:=Classical.axiomOfChoice hR
 have afc:∀i,i<n→∀a∈A i,a∈A (i+1):=fun i hi a ha=>by
  obtain ⟨o,ho⟩:=hop i hi;rcases (hstep i o ho).2 with ⟨_,_,_,_,a1,_⟩ | ⟨hx,_,a1⟩
  ·rw [a1];exact ha
  ·rcases (hR i o ho hx).ent with ⟨e,_⟩ | ⟨b,e,_⟩ | ⟨e,_⟩<;>rw [e]
   ·exact ha
   ·exact Ic _ ha
   ·exact ha
 have agZ:∀(j i:Nat),i≤j→j≤n→∀a∈A i,a∈A j:=fun j=>by
  induction j with
  | zero=>intro i hi _ a ha;rw [show i=0 by omega] at ha;exact ha
  | succ j ih=>
   intro i hi hj a ha;by_cases e:i=j+1
   ·rw [← e];exact ha
   ·exact afc j (by omega) a (ih i (by omega) (by omega) a ha)
 have WM:∀(j i:Nat),i≤j→j≤n→N i≤N j:=fun j=>by
  induction j with
  | zero=>intro i hi _;rw [show i=0 by omega];exact ah _
  | succ j ih=>
   intro i hi hj;by_cases e:i=j+1
   ·rw [e];exact ah _
   ·exact aL (ih i (by omega) (by omega)) (hup j (by omega)).1
 unfold Tp at acj;rw [cZ,cZ] at acj;obtain ⟨⟨hback,TH⟩,aaM⟩:=acj;unfold Vw at hback;unfold Wv at TH;rw [qQ] at hback TH aaM
 have O6:∀i o,all[i]?=some o→∀e∈o.after,Region.binds .any e=true→e.on<i:=fun i o ho e hee hbe=>by
  have:=hback (i,o) (rG (by simpa using ho));simp only [qQ] at this;have:=this e (by simpa using hee);rw [hbe] at this;exact iq.1 (by simpa using this)
 have aag:∀i o j,all[i]?=some o→(an i).testBit j=true→∃e∈o.after,Region.binds .any e=true∧(e.on=j∨(e.on<i∧(an e.on).testBit j=true)):=fun i o j ho hj=>by
  have:=(I9 all.toList []).2 i o j (by simpa using ho) (by rw [xB] at hj;simpa using hj);obtain ⟨e,h1,h2,h3⟩:=this;refine ⟨e,by simpa using h1,h2,h3.imp id fun h=>⟨by simpa using h.1,by rw [xB];exact h.2⟩⟩
 have afd:∀m i j,i≤m→i<n→(an i).testBit j=true→j<i:=fun m=>by
  induction m with
  | zero=>
   intro i j him hi hj;obtain ⟨o,ho⟩:=hop i hi;obtain ⟨e,h1,h2,h3⟩:=aag i o j ho hj;have:=O6 i o ho e h1 h2;omega
  | succ m ih=>
   intro i j him hi hj;obtain ⟨o,ho⟩:=hop i hi;obtain ⟨e,h1,h2,h3⟩:=aag i o j ho hj;have:=O6 i o ho e h1 h2;rcases h3 with h3 | ⟨_,h3⟩
   ·omega
   ·have:=ih e.on j (by omega) (by omega) h3;omega
 have c:Ctx P lim all sz n T C A N V X an (zD all.toList (qI all.toList [])) R:=by
  refine ⟨hnn.symm,fun i o ho=>(hstep i o ho).1,fun i o ho=> ?_,fun i j hji hi hxi hxj hna=> ?_,fun i hi=>(hup i hi).2,fun i hi=>(hup i hi).1,fun i j hi hj=>afd i i j (ah _) hi hj,fun i o u ho hu j p hp hd=> ?_,fun i j o p d ho hp h1 h2=> ?_⟩
  ·rcases (hstep i o ho).2 with ⟨a,b,c,d,_,e⟩ | ⟨a,b,_⟩
   ·exact .inl ⟨a,b,c,d,e⟩
   ·exact .inr ⟨a,b,hR i o ho a⟩
  ·obtain ⟨oi,hoi⟩:=hop i hi;obtain ⟨oj,hoj⟩:=hop j (by omega);have ri:=hR i oi hoi hxi;have rj:=hR j oj hoj hxj;rcases rj.ent with ⟨_,h1,h2⟩ | ⟨a,ha,hai,h1,h2⟩ | ⟨_,htot⟩
   ·exact ⟨fun k hk=>absurd hk (h1 k),fun k _ hk=>h2 k hk⟩
   ·have hmem:a∈A i:=agZ i (j+1) (by omega) (by omega) a (by rw [ha];exact Bq);obtain ⟨c1,c2⟩:=ri.conf a hmem (by rw [hai];exact hna);refine ⟨fun k hk=>c1 k (h1 k hk),fun k hk hf=> ?_⟩;obtain ⟨f1,f2⟩:=h2 k hf;have:=c2 k hk (by have:=WM i j (by omega) (by omega);omega);rw [f1] at this;cases this
   ·cases hbt:JF oi.op with
    | false=>
     obtain ⟨g1,g2⟩:=ri.hb hbt;exact ⟨fun k _ hk=>g2 k hk,fun k hk=>absurd hk (g1 k)⟩
    | true=>
     unfold zD at htot;rw [qQ] at htot;have:=htot (i,oi) (rG (by simpa using hoi));simp only [hbt,LM,qdo,qdc] at this;rcases this with h | h
     ·have:=iA h;omega
     ·rw [xB] at hna;simp only at hna;rw [h] at hna;cases hna
  ·have:=aaM (i,o) (rG (by simpa using ho));simp only [qQ] at this;have:=this u hu;unfold abL at this;rw [qQ] at this;have:=this (j,p) (rG (by simpa using hp));simp only [hd,WV,LM,Cz] at this;unfold aez at this;simp only [qdc] at this;rw [xB];rcases this with (h | h) | h
   ·exact .inl (eF h).symm
   ·exact .inr (.inl h)
   ·exact .inr (.inr h)
  ·have:=TH (i,o) (rG (by simpa using ho));simp only [h1] at this;rw [qQ] at this;have:=this (j,p) (rG (by simpa using hp));simp only [h2,WV,LM,qdo] at this;exact eF this
 have hfr:∀k,N 0≤k→k<N n→f0 k=none:=by rw [e4,e7];exact hn
 have I0:Inv all sz n T C N V X R lim f0 w0.drew (fun _=>False) f0 w0.drew tm0:=by
  have hv:gJ C X R (fun _=>False) n=(C 0).get:=funext fun k=>vM c n 0 (ah _) (Mg _) (fun j _=>⟨fun h=>h.1.elim,fun h=>absurd h.1 (qdy _)⟩);have hs:∀k,mW all T V (fun _=>False) n k=iE (T 0) k:=fun k=>rM c n 0 (ah _) (Mg _) (fun j o _ _ _=>⟨fun h=>h.elim,fun h=>absurd h (qdy _)⟩);refine ⟨ht.1,fun k=>by rw [hs,e1];exact ht.2 k,by rw [hv,e2];exact H0.congr rfl,fun j hj _ k h1 h2=>hfr k ?_ ?_,F.le_refl _,fun k hk=>absurd rfl hk,Fr.refl _ _ _,fun i x h1 h2=>by rw [h1] at h2;cases h2⟩
  ·have:=WM j 0 (by omega) (by omega);omega
  ·have:=WM n (j+1) (by omega) (ah _);omega
 have run:∀(fuel:Nat) (U:List Nat) (listed:Array Bool) (τ:Nat) (f:F) (w:World) (tm:Array Value),U.length=fuel→U.Nodup→listed.size=n→(∀i,i∈U↔i<n∧listed.getD i true=false)→
   (∀i,i<n→listed.getD i false=true→∀j,(an i).testBit j=true→listed.getD j false=true)→Inv all sz n T C N V X R lim f0 w0.drew (fun j=>listed.getD j false=true) f w tm→
   ∃f' w' tm',Inv all sz n T C N V X R lim f0 w0.drew (fun j=>j<n) f' w' tm'∧Steps P (lone (fr b tm ds (.inRegion all (Region.linearise.go .any all fuel τ listed [])::k)) cs w) (lone (fr b tm' ds k) cs w'):=by
  intro fuel
  induction fuel with
  | zero=>
   intro U listed τ f w tm hU _ hls vV _ I
   have hall:(fun j=>listed.getD j false=true)=fun j=>j<n:=funext fun j=>propext ⟨fun h=>Xg fun hn=>(by
     have:listed[j]?=none:=by simp;omega
     rw [si,this] at h
     cases h),fun h=>(by
     have hj:j<listed.size:=by omega
     cases hb2:listed.getD j true with
     | false=>have:=(vV j).2 ⟨h,hb2⟩;rw [vR.1 hU] at this;cases this
     | true=>simpa [Array.getD,hj] using hb2)⟩
   rw [hall] at I;exact ⟨f,w,tm,I, .one (by simpa [Region.linearise.go] using yF)⟩
  | succ fuel ih=>
   intro U listed τ f w tm hU Mt hls vV hcl I
   have hex:∀(m i:Nat),i≤m→i<n→listed.getD i true=false→∃j,j∈Region.ready .any all listed:=by
    intro m
    induction m with
    | zero=>
     intro i him hin hun;obtain ⟨o,ho⟩:=hop i hin;refine ⟨i,?_⟩;unfold Region.ready;rw [qda];refine ⟨by simp;omega,?_⟩;rw [hun,ho];simp only [Tz,lK,qE,OT,Sz];intro e he;cases hb2:Region.binds .any e with
     | false=>rfl
     | true=>have:=O6 i o ho e he hb2;omega
    | succ m ihm=>
     intro i him hin hun;obtain ⟨o,ho⟩:=hop i hin;by_cases ha:∀e∈o.after,Region.binds .any e=true→listed.getD e.on false=true
     ·refine ⟨i,?_⟩;unfold Region.ready;rw [qda];refine ⟨by simp;omega,?_⟩;rw [hun,ho];simp only [Tz,lK,qE,OT,Sz];intro e he;cases hb2:Region.binds .any e with
      | false=>rfl
      | true=>rw [ha e he hb2];rfl
     ·obtain ⟨e,he⟩:=qdz.1 ha;obtain ⟨h1,he⟩:=ZL.1 he;obtain ⟨h2,h3⟩:=ZL.1 he;have hlt:=O6 i o ho e h1 h2;refine ihm e.on (by omega) (by omega) ?_;have hs:e.on<listed.size:=by omega
      simp only [Array.getD,hs,dif_pos] at h3 ⊢;simpa using h3
   obtain ⟨i1,hi1⟩:∃i1,i1∈U:=by cases U with
    | nil=>cases hU
    | cons x U=>exact ⟨x,Bq⟩
   have xX:=(vV i1).1 hi1;obtain ⟨j0,hj0⟩:=hex i1 i1 (ah _) xX.1 xX.2;simp only [Region.linearise.go]
   change ∃f' w' tm',Inv all sz n T C N V X R lim f0 w0.drew (fun j=>j<n) f' w' tm'∧Steps P (lone (fr b tm ds (.inRegion all (match (Region.ready .any all listed)[τ % (Region.ready .any all listed).length]? with
    | some i=>Region.linearise.go .any all fuel (τ / (Region.ready .any all listed).length) (listed.setIfInBounds i true) [i]
    | none=>[].reverse)::k)) cs w) (lone (fr b tm' ds k) cs w')
   have hpos:0<(Region.ready .any all listed).length:=qdn hj0;cases hi:(Region.ready .any all listed)[τ % (Region.ready .any all listed).length]? with
   | none=>
    rw [qdb] at hi;have:=U9 τ hpos;omega
   | some i=>
    have hir:=qdA hi;unfold Region.ready at hir;rw [qda] at hir;obtain ⟨h1,h2⟩:=hir;have hin:i<n:=by simpa [hnn] using h1
    obtain ⟨o,ho⟩:=hop i hin;rw [ho] at h2;simp only [lK,qE,cZ,XP,Sz] at h2;obtain ⟨hun,hrd⟩:=h2;have hsz:i<listed.size:=by omega
    have hni:¬listed.getD i false=true:=by
     simp only [Array.getD,hsz,dif_pos] at hun ⊢;rw [hun];exact Bool.false_ne_true
    have hai:∀j,(an i).testBit j=true→listed.getD j false=true:=fun j hj=>by
     obtain ⟨e,g1,g2,g3⟩:=aag i o j ho hj;have:=hrd e g1;rw [g2] at this;have hs:listed.getD e.on false=true:=by simpa using this
     rcases g3 with rfl | ⟨g4,g5⟩
     ·exact hs
     ·exact hcl e.on (by omega) hs j g5
    obtain ⟨f',w',tm',I',st⟩:=Em c (by exact hfr) I (fun i hi hs j hj=>hcl i hi hs j hj) hin hni hai ho b k cs ds (Region.linearise.go .any all fuel (τ / (Region.ready .any all listed).length) (listed.setIfInBounds i true) [])
    have hset:∀j,(listed.setIfInBounds i true).getD j false=true↔j=i∨listed.getD j false=true:=fun j=>by
     simp only [si,Us];by_cases e:i=j
     ·subst e;simp [hsz]
     ·rw [aF e];constructor
      ·exact fun h=> .inr h
      ·rintro (h | h)
       ·exact absurd h.symm e
       ·exact h
    have hSe:(fun j=>j=i∨listed.getD j false=true)=fun j=>(listed.setIfInBounds i true).getD j false=true:=funext fun j=>propext (hset j).symm;rw [hSe] at I';have hiU:i∈U:=(vV i).2 ⟨hin,hun⟩
    obtain ⟨f2,w2,He,I2,st2⟩:=ih (U.erase i) (listed.setIfInBounds i true) (τ / (Region.ready .any all listed).length) f' w' tm' (by rw [qcC hiU,hU];rfl) (Mt.erase i) (by simpa using hls) (fun j=>by
      rw [Mt.mem_erase_iff,vV j]
      simp only [si,Us]
      by_cases e:i=j
      ·subst e;simp [hsz]
      ·rw [aF e]
       exact ⟨fun h=>h.2,fun h=>⟨fun e2=>e e2.symm,h⟩⟩)
     (fun j hj hs q hq=>by
      rw [hset] at hs ⊢
      rcases hs with rfl | hs
      ·exact .inr (hai q hq)
      ·exact .inr (hcl j hj hs q hq)) I'
    refine ⟨f2,w2,He,I2,?_⟩;simp only;rw [linearise_go_acc,List.reverse_singleton,List.singleton_append];exact st.trans st2
 obtain ⟨f',w',tm',I,st⟩:=run n (List.range n) (Array.replicate n false) τ f0 w0.drew tm0 (by simp) qdt (by simp) (fun i=>by
   rw [Ij]
   refine ⟨fun h=>⟨h,?_⟩,fun h=>h.1⟩
   simp [Array.getD,h]) (fun i hi h=>by
   simp [Array.getD] at h) (by
   have:(fun j=>(Array.replicate n false).getD j false=true)=fun _=>False:=funext fun j=>propext ⟨fun h=>by
    simp [Array.getD] at h,fun h=>h.elim⟩
   rw [this];exact I0)
 have hv:gJ C X R (fun j=>j<n) n=(C n).get:=funext fun k=>vM c n n (ah _) (ah _) (fun j _=>Iff.rfl);have hs:∀k,mW all T V (fun j=>j<n) n k=iE (T n) k:=fun k=>rM c n n (ah _) (ah _) (fun j o _ _ _=>Iff.rfl);refine ⟨f',w',tm',⟨I.le,fun k hk=> ?_,by rw [← e6,← hv];exact I.hr,?_,?_,?_,?_,hn⟩,⟨I.sz,fun k=>by rw [← e5,← hs];exact I.sl k⟩,?_⟩
 ·have:=I.new k hk;rw [e4,e7] at this;exact this
 ·have:=I.fr;rw [e2] at this;exact ⟨this.os,this.tape,this.output,this.size,this.block⟩
 ·have:=I.old;rw [e2] at this;exact this
 ·rw [← e4,← e7];exact WM n 0 (Mg _) (ah _)
 ·have:=c.aby n (ah _);rw [e2,e4,e6,e7] at this;exact this
 ·have:=st;simp only [Region.schedule,hmx,Bool.true_or,wT];unfold Region.linearise;rw [← hnn];exact this
end
end
section
open Go
variable {P:Program}
theorem Mc {id i:Nat} {k:List Item} (h:i≠id):exitTo i (.inBlock id::k)=exitTo i k:=by
 have:(id==i)=false:=by simp;exact fun e=>h e.symm
 simp [exitTo,this]
theorem Mi (hgo:yU P=true) (hmx:P.follows .mixedOrders=true) {K:aZ} (hK:HK P K) {ih:ry} (hi:uN P ih) (mi:GE ih):uN P (BU P K ih):=by
 intro lim fid rd c st e st' hr hlim f w tm ds R H0 hb ht hd hR hn
 have same:∀{x:Ex},some (x,st)=some (e,st')→(∀(b:Frame) (k:List Item) (cs:List Frame),vW P (lone (fr b tm ds (.code c::k)) cs w) b k cs tm ds w undef x)→XV f undef x→
   ∀(b:Frame) (k:List Item) (cs:List Frame),b.fn=fid→b.roundOf=R→∃f' w' tm' ds' u,dM f lim st.h st.nx st'.nx w f' st'.h w'∧TR f' st'.t st'.sz tm'∧DR f' st'.d ds'∧XV f' u e∧vW P (lone (fr b tm ds (.code c::k)) cs w) b k cs tm' ds' w' u e:=by
  intro x hx h hxv;simp only [az,bJ] at hx;obtain ⟨rfl,rfl⟩:=hx;exact fun b k cs _ _=>⟨f,w,tm,ds,undef,dM.same H0,ht,hd,hxv,h b k cs⟩
 have two:∀{c1 c2:Code} {st1:St},ih lim fid rd c1 st=some (.normal,st1)→ih lim fid rd c2 st1=some (e,st')→∀(b:Frame) (k k1:List Item) (cs:List Frame),b.fn=fid→b.roundOf=R→
   ∃w1 iP ds1 f' w' tm' ds' u,dM f lim st.h st.nx st'.nx w f' st'.h w'∧TR f' st'.t st'.sz tm'∧DR f' st'.d ds'∧XV f' u e∧Steps P (lone (fr b tm ds (.code c1::k1)) cs w) (lone (fr b iP ds1 k1) cs w1)∧
    vW P (lone (fr b iP ds1 (.code c2::k)) cs w1) b k cs tm' ds' w' u e:=by
  intro c1 c2 st1 h1 h2 b k k1 cs hbf hbr;have m1:=(mi _ _ _ _ _ _ _ h1).1;have m2:=(mi _ _ _ _ _ _ _ h2).1;obtain ⟨f1,w1,iP,ds1,u1,p1,q1,r1,_,s1⟩:=hi _ _ _ _ _ _ _ h1 hlim f w tm ds R H0 hb ht hd hR (fun i a b=>hn i a (by omega)) b k1 cs hbf hbr;obtain ⟨f2,w2,He,Qm,u2,p2,q2,r2,x2,s2⟩:=hi _ _ _ _ _ _ _ h2 (by omega) f1 w1 iP ds1 R p1.hr (hb.next p1) q1 r1 (hR.mono p1.le) (oD p1 hn) b k cs hbf hbr;exact ⟨w1,iP,ds1,f2,w2,He,Qm,u2,p1.trans p2 hn,q2,r2,x2,s1,s2⟩
 have pre:∀{c1:Code},ih lim fid rd c1 st=some (e,st')→(∀(b:Frame) (k:List Item) (cs:List Frame),step P (lone (fr b tm ds (.code c::k)) cs w)= .next (lone (fr b tm ds (.code c1::k)) cs w))→
   ∀(b:Frame) (k:List Item) (cs:List Frame),b.fn=fid→b.roundOf=R→∃f' w' tm' ds' u,dM f lim st.h st.nx st'.nx w f' st'.h w'∧TR f' st'.t st'.sz tm'∧DR f' st'.d ds'∧XV f' u e∧vW P (lone (fr b tm ds (.code c::k)) cs w) b k cs tm' ds' w' u e:=by
  intro c1 h1 hs;intro b k cs hbf hbr;obtain ⟨f1,w1,iP,ds1,u1,p1,q1,r1,x1,s1⟩:=hi _ _ _ _ _ _ _ h1 hlim f w tm ds R H0 hb ht hd hR hn b k cs hbf hbr;exact ⟨f1,w1,iP,ds1,u1,p1,q1,r1,x1,vW.steps (.one (hs b k cs)) s1⟩
 unfold BU at hr;split at hr
 ·exact same hr (fun b k cs=>Steps.one acv) trivial
 ·exact same hr (fun b k cs=>Steps.one Y4) trivial
 ·rename_i a b2;split at hr
  ·rename_i st1 h1;intro b k cs hbf hbr;obtain ⟨w1,iP,ds1,f2,w2,He,Qm,u2,p,q,r,x2,s1,s2⟩:=two h1 hr b k (.code b2::k) cs hbf hbr;exact ⟨f2,w2,He,Qm,u2,p,q,r,x2,vW.steps (.head PN s1) s2⟩
  ·rename_i hne;intro b k cs hbf hbr;obtain ⟨f1,w1,iP,ds1,u1,p1,q1,r1,x1,this⟩:=hi _ _ _ _ _ _ _ hr hlim f w tm ds R H0 hb ht hd hR hn b (.code b2::k) cs hbf hbr;refine ⟨f1,w1,iP,ds1,u1,p1,q1,r1,x1,vW.steps (.one PN) ?_⟩;cases e with
   | normal=>exact absurd hr (fun h=>hne _ h)
   | exit id=>obtain ⟨todo,t1,t2⟩:=this;exact ⟨todo,by rw [t1];rfl,t2⟩
   | ret=>exact this
   | panic v=>exact this
 ·rename_i cnd x y;have hc:=iR H0.gl ht cnd;split at hr
  ·rename_i hcv;rw [hcv] at hc;generalize hg:dO tm cnd=u at hc;cases hc;exact pre hr fun b k cs=>by have:=QK (P:=P) (b:=b) (ds:=ds) (k:=k) (cs:=cs) (w:=w) (x:=x) (y:=y) hg;simpa using this
  ·rename_i hcv;rw [hcv] at hc;generalize hg:dO tm cnd=u at hc;cases hc;exact pre hr fun b k cs=>by have:=QK (P:=P) (b:=b) (ds:=ds) (k:=k) (cs:=cs) (w:=w) (x:=x) (y:=y) hg;simpa using this
  ·cases hr
 ·rename_i id bo;split at hr
  ·rename_i i st1 h1;have hst:st1=st':=by split at hr<;>simp only [az,bJ] at hr<;>exact hr.2
   subst hst;intro b k cs hbf hbr;obtain ⟨f1,w1,iP,ds1,u1,p1,q1,r1,_,todo,t1,t2⟩:=hi _ _ _ _ _ _ _ h1 hlim f w tm ds R H0 hb ht hd hR hn b (.inBlock id::k) cs hbf hbr;have x1:XV f1 u1 e:=by split at hr<;>simp only [az,bJ] at hr<;>rw [← hr.1]<;>trivial
   refine ⟨f1,w1,iP,ds1,u1,p1,q1,r1,x1,?_⟩;split at hr
   ·rename_i he;have he:=eF he;subst he;simp only [az,bJ] at hr;rw [← hr.1];exact Steps.head wJ (Bg t2 (.one (ack (by rw [t1];simp [exitTo]))))
   ·rename_i he;have hne:i≠id:=fun e2=>by rw [e2,WV] at he;cases he
    simp only [az,bJ] at hr;rw [← hr.1];exact ⟨todo,by rw [t1,Mc hne], .head wJ t2⟩
  ·rename_i hne;intro b k cs hbf hbr;obtain ⟨f1,w1,iP,ds1,u1,p1,q1,r1,x1,this⟩:=hi _ _ _ _ _ _ _ hr hlim f w tm ds R H0 hb ht hd hR hn b (.inBlock id::k) cs hbf hbr;refine ⟨f1,w1,iP,ds1,u1,p1,q1,r1,x1,?_⟩;cases e with
   | normal=>exact Steps.head wJ (Bg this (.one RU))
   | exit i=>exact absurd hr (fun h=>hne _ _ h)
   | ret=>obtain ⟨todo,t2⟩:=this;exact ⟨todo, .head wJ t2⟩
   | panic v=>obtain ⟨todo,t2⟩:=this;exact ⟨todo, .head wJ t2⟩
 ·rename_i bo;split at hr
  ·rename_i st1 h1;intro b k cs hbf hbr;obtain ⟨w1,iP,ds1,f2,w2,He,Qm,u2,p,q,r,x2,a1,a2⟩:=two h1 hr b k (.inLoop bo::k) cs hbf hbr;refine ⟨f2,w2,He,Qm,u2,p,q,r,x2,?_⟩;have a3:Steps P (lone (fr b tm ds (.code (.loop bo)::k)) cs w) (lone (fr b iP ds1 (.code bo:: .inLoop bo::k)) cs w1):= .head zf (Bg a1 (.one UG))
   have cut:∀{m:Machine},Steps P (lone (fr b iP ds1 (.code (.loop bo)::k)) cs w1) m→m≠lone (fr b iP ds1 (.code (.loop bo)::k)) cs w1→Steps P (lone (fr b iP ds1 (.code bo:: .inLoop bo::k)) cs w1) m:=by
    rintro m ⟨x,hx⟩ hne;cases x with
    | zero=>simp only [runN] at hx;injection hx with hx;exact absurd hx.symm hne
    | succ x=>
     rw [runN,zf] at hx;exact ⟨x,hx⟩
   have neM:∀{m:Machine},(m.gs[0]?.map fun g=>g.frame.mode matches .run)≠some true→m≠lone (fr b iP ds1 (.code (.loop bo)::k)) cs w1:=fun h he=>h (by rw [he];simp [lone,fr])
   have ne:∀{t':Array Value} {ds':List Deferred} {k':List Item} {w':World},k'≠ .code (.loop bo)::k→lone (fr b t' ds' k') cs w'≠lone (fr b iP ds1 (.code (.loop bo)::k)) cs w1:=fun hk he=>by
    have:=congrArg (fun m:Machine=>(m.gs[0]?).map (·.frame.todo)) he;simp only [lone,qcl,YB,lK,fr,az] at this;exact hk this
   cases e with
   | normal=>exact a3.trans (cut a2 (ne fun h=>by have:=congrArg List.length h;simp at this))
   | exit id=>obtain ⟨todo,t1,t2⟩:=a2;exact ⟨todo,t1,a3.trans (cut t2 (ne fun h=>by simp at h))⟩
   | ret=>obtain ⟨todo,t2⟩:=a2;exact ⟨todo,a3.trans (cut t2 (ne fun h=>by simp at h))⟩
   | panic v=>obtain ⟨todo,t2⟩:=a2;exact ⟨todo,a3.trans (cut t2 (neM fun h=>by simp [lone,fr] at h))⟩
  ·rename_i hne;intro b k cs hbf hbr;obtain ⟨f1,w1,iP,ds1,u1,p1,q1,r1,x1,this⟩:=hi _ _ _ _ _ _ _ hr hlim f w tm ds R H0 hb ht hd hR hn b (.inLoop bo::k) cs hbf hbr;refine ⟨f1,w1,iP,ds1,u1,p1,q1,r1,x1,?_⟩;cases e with
   | normal=>exact absurd hr (fun h=>hne _ h)
   | exit id=>obtain ⟨todo,t1,t2⟩:=this;exact ⟨todo,by rw [t1];rfl, .head zf t2⟩
   | ret=>obtain ⟨todo,t2⟩:=this;exact ⟨todo, .head zf t2⟩
   | panic v=>obtain ⟨todo,t2⟩:=this;exact ⟨todo, .head zf t2⟩
 ·exact same hr (fun b k cs=>⟨k,rfl, .refl _ _⟩) trivial
 ·exact same hr (fun b k cs=>⟨k, .refl _ _⟩) trivial
 ·rename_i bo;intro b k cs hbf hbr;obtain ⟨f1,w1,iP,ds1,u1,p1,q1,r1,x1,this⟩:=hi _ _ _ _ _ _ _ hr hlim f w tm ds R H0 hb ht hd hR hn b (.inScope bo::k) cs hbf hbr;refine ⟨f1,w1,iP,ds1,u1,p1,q1,r1,x1,?_⟩;cases e with
  | normal=>exact Steps.head zk (Bg this (.one QL))
  | panic v=>obtain ⟨todo,t2⟩:=this;exact ⟨todo, .head zk t2⟩
  | exit id=>obtain ⟨todo,t1,t2⟩:=this;exact ⟨todo,by rw [t1];rfl, .head zk t2⟩
  | ret=>obtain ⟨todo,t2⟩:=this;exact ⟨todo, .head zk t2⟩
 ·rename_i id ops draw;split at hr;rename_i t sz h nx d;simp only at hlim H0 hb ht hd hn ⊢;split at hr
  ·split at hr
   ·rename_i e2 t2 h2 qO d2 h1;simp only [az,bJ] at hr;obtain ⟨rfl,rfl⟩:=hr;intro b k cs hbf hbr
    have hro:rd=none→b.roundOf=none:=fun e=>by
     subst e;cases R with
     | none=>exact hbr
     | some _=>exact hR.elim
    obtain ⟨f1,w1,iP,ds1,u1,p1,q1,r1,x1,s1⟩:=Cu hgo (oQ hgo hK hi mi (kg hi mi) (fB mi)) (kg hi mi) (mH hK.g mi (fB mi)) (fB mi) ops sz rd _ 0 rfl _ _ _ _ _ _ _ _ _ h1 hlim f w tm ds H0 hb ht hd hn b k cs hro;exact ⟨f1,w1,iP,ds1,u1,p1,q1,r1,x1,vW.steps (.one KF) (by simpa using s1)⟩
   ·cases hr
  ·split at hr
   ·cases hr
   ·rename_i pl hpl;split at hr
    ·rename_i t2 h2 qO h1;simp only [az,bJ] at hr;obtain ⟨rfl,rfl⟩:=hr;intro b k cs hbf hbr;obtain ⟨f1,w1,iP,p1,q1,this⟩:=QW hgo (oQ hgo hK hi mi (kg hi mi) (fB mi)) (mH hK.g mi (fB mi)) hmx hpl h1 hlim H0 hb ht hn (w.tape w.drawn (.order fid id)) b k cs ds;refine ⟨f1,w1,iP,ds,undef,p1,q1,hd.mono p1.le,trivial,?_⟩;rw [← hbf] at this;exact Steps.head acF this
    ·cases hr
 ·exact KN hK hgo hi mi hr hlim H0 hb ht hd hR hn
 ·cases hr
theorem abx (hgo:yU P=true) (hmx:P.follows .mixedOrders=true) {K:aZ} (hK:HK P K):∀n,uN P (ev P K n)∧GE (ev P K n)
 | 0=>⟨fun _ _ _ _ _ _ _ h=>(by cases h),fun _ _ _ _ _ _ _ h=>(by cases h)⟩
 | n+1=>by
  obtain ⟨h1,h2⟩:=abx hgo hmx hK n;exact ⟨Mi hgo hmx hK h1 h2,Ze hK.g h2⟩
theorem Zd (hgo:yU P=true) (hmx:P.follows .mixedOrders=true) {K:aZ} (hK:HK P K) {n nx:Nat} {g:FuncId} {args:List AV} {h:H} {v:AV} {h':H} {nx':Nat} {bb:Bool} (he:jB P K (ev P K n) (iH (ev P K n)) nx g args h nx=some (bb,v,h',nx')) {f:F} {w:World} {us:List Value} (H0:HR f h.get w) (hb:BD h nx) (hu:bg f args us) (hn:∀i,nx≤i→f i=none):
  Calls P g us.toArray w fun e w'=>∃u f',e=ab0 bb u∧VR f' v u∧HR f' h'.get w'∧F.le f f'∧RowKit.Below w.heap.size w w'∧BD h' nx'∧(∀i,nx'≤i→f' i=none)∧∀i x,f i=none→f' i=some x→w.heap.size≤x.1:=by
 obtain ⟨h1,h2⟩:=abx hgo hmx hK n;intro cs;obtain ⟨f',w',u,fr',p,q,s1,s2,s3⟩:=(oQ hgo hK h1 h2 (kg h1 h2) (fB h2) _ _ _ _ _ _ _ _ _ he (ah _) f w us H0 hb hu (fun i a _=>hn i a)).2 cs;refine ⟨ab0 bb u,w',fr',⟨u,f',rfl,q,p.hr,p.le,⟨p.fr.os,p.fr.tape,p.fr.output,p.fr.size,fun k hk=>p.fr.block k hk fun i x hi _=> ?_⟩,hb.next p,fun i hi=> ?_,fun i x a b=> ?_⟩,(by cases bb<;>exact s1),s2,s3⟩
 ·exact absurd (hb i hi.2) (Hw.2 hi.1)
 ·have e:f' i=f i:=Xg fun e=>by have:=p.new i e;omega
  rw [e];exact hn i (aL p.up hi)
 ·rcases p.old i x a b with h | ⟨j,y,hj,_,_⟩
  ·exact h
  ·exact absurd (hb j hj.2) (Hw.2 hj.1)
end
section
open Go
variable {P:Program}
theorem HR.below {f:F} {h:Nat→Option OB} {w w':World} (H0:HR f h w) (hb:RowKit.Below w.heap.size w w'):HR f h w':=
 ⟨fun i ob e=>let ⟨B,s,n,o,h1,h2,h3⟩:=H0.obj i ob e;⟨B,s,n,o,h1,by rw [hb.block B (H0.dom i _ h1)];exact h2,h3⟩,H0.inj,(fun i x hx=>bO (H0.dom i x hx) hb.size),H0.gl⟩
def Made (l:List AV) (h:H) (nx:Nat) (w:World) (us:List Value):Prop:=∃f,HR f h.get w∧bg f l us∧BD h nx∧∀i,nx≤i→f i=none
theorem Made.below {l:List AV} {h:H} {nx:Nat} {w w':World} {us:List Value} (m:Made l h nx w us) (hb:RowKit.Below w.heap.size w w'):Made l h nx w' us:=
 let ⟨f,h1,h2,h3,h4⟩:=m;⟨f,h1.below hb,h2,h3,h4⟩
theorem Made.sub {l:List AV} {h h':H} {nx:Nat} {w:World} {us:List Value} (m:Made l h nx w us) (hs:∀i ob,h'.get i=some ob→h.get i=some ob):Made l h' nx w us:=
 let ⟨f,h1,h2,h3,h4⟩:=m;⟨f,h1.sub hs,h2,(fun k hk=>h3 k (by
  cases e:h'.get k with
  | none=>rw [e] at hk;cases hk
  | some ob=>rw [hs k ob e];rfl)),h4⟩
theorem Made.lits {l:List AV} {h:H} {nx:Nat} {w:World} {us:List Value} (m:Made l h nx w us) (vs:List Value):Made (vs.map .lit) h nx w vs:=
 let ⟨f,h1,_,h3,h4⟩:=m;⟨f,h1,bg.lits f vs,h3,h4⟩
theorem Made.start {w:World} (hg:gN≤w.heap.size) {nx:Nat} (hn:gN≤nx) (vs:List Value):Made (vs.map .lit) .e nx w vs:=
 ⟨fun i=>if i<gN then some (i,0,0) else none,⟨fun i ob e=>(by cases e),fun i j ob jw x y e=>(by cases e),(fun i x e=>by
  split at e
  ·simp only [az] at e;subst e;simp only;omega
  ·cases e),fun g h=>⟨0,aC h⟩⟩,bg.lits _ vs,fun k hk=>(by cases hk),fun i hi=>aF (by omega)⟩
theorem Made.table {w:World} (hg:gN≤w.heap.size) {nx:Nat} (hn:gN≤nx) {g:Nat} (hgg:g<gN) {t:List Value} (h0:0<t.length) (ht:∀j,j<t.length→w.cell? ⟨g,j,none⟩=t[j]?) (vs:List Value):Made (vs.map .lit) (T.set .e g (.tab t)) nx w vs:=by
 have hget:∀i ob,(T.set (.e:H) g (.tab t)).get i=some ob→i=g∧ob= .tab t:=fun i ob e=>by
  rw [T.fA] at e;split at e
  ·exact ⟨by assumption,by simpa using e.symm⟩
  ·cases e
 have hcell:∃C E fr,w.heap[g]?=some (.cells C E fr)∧∀j,j<t.length→C[0+j]?=t[j]?:=by
  have hz:=ht 0 h0;unfold World.cell? at hz;split at hz
  ·rename_i C E fr he;refine ⟨C,E,fr,he,fun j hj=> ?_⟩;have:=ht j hj;unfold World.cell? at this;simp only [he] at this;rw [nR];simpa using this
  ·rw [bM h0] at hz;cases hz
 obtain ⟨C,E,fr,hc,hC⟩:=hcell
 refine ⟨fun i=>if i<gN then some (i,0,0) else none,⟨fun i ob e=> ?_,fun i j ob jw x y e e' _ _ _=>by rw [(hget i ob e).1,(hget j jw e').1],(fun i x e=>by
  split at e
  ·simp only [az] at e;subst e;simp only;omega
  ·cases e),fun g h=>⟨0,aC h⟩⟩,bg.lits _ vs,fun k hk=> ?_,fun i hi=>aF (by omega)⟩
 ·obtain ⟨rfl,rfl⟩:=hget i ob e;exact ⟨i,0,0,_,aC hgg,hc,C,E,fr,rfl,hC⟩
 ·cases e:(T.set (.e:H) g (.tab t)).get k with
  | none=>rw [e] at hk;cases hk
  | some ob=>rw [(hget k ob e).1];omega
theorem qd (hgo:yU P=true) (hmx:P.follows .mixedOrders=true) {K:aZ} (hK:HK P K) {n nx:Nat} {g:FuncId} {args:List AV} {h:H} {v:AV} {h':H} {nx':Nat} (he:jB P K (ev P K n) (iH (ev P K n)) nx g args h nx=some (false,v,h',nx')) {w:World} {us:List Value} (m:Made args h nx w us):
  Calls P g us.toArray w fun e w'=>∃u,e= .returned u∧Made [v] h' nx' w' [u]∧RowKit.Below w.heap.size w w':=by
 obtain ⟨f,h1,h2,h3,h4⟩:=m;intro cs;obtain ⟨e,w',fr',⟨u,f',rfl,q1,q2,q3,q4,q5,q6,_⟩,s1,s2,s3⟩:=Zd hgo hmx hK he h1 h3 h2 h4 cs;exact ⟨_,w',fr',⟨u,rfl,⟨f',q2, .cons q1 .nil,q5,q6⟩,q4⟩,s1,s2,s3⟩
theorem HK.of {K:aZ} (hk:∀lim g args h nx b v h' nx',K lim g args h nx=some (b,v,h',nx')→b=false∧h'=h∧nx'=nx∧(∃fn,P.funcs[g]?=some fn∧fn.body.isSome=true)∧
  ∀(f:F) (w:World) (us:List Value),HR f h.get w→bg f args us→Calls P g us.toArray w fun e w'=>∃u,e= .returned u∧VR f v u∧RowKit.Below w.heap.size w w'):HK P K:=by
 refine ⟨fun lim g args h nx b v h' nx' e=> ?_,fun lim g args h nx b v h' nx' e hlim f w us H0 hb hu hn=> ?_,fun lim g args h nx r e=> ?_⟩
 ·obtain ⟨_,rfl,rfl,_⟩:=hk _ _ _ _ _ _ _ _ _ e;exact G.refl _ _
 ·obtain ⟨rfl,rfl,rfl,hfn,hc⟩:=hk _ _ _ _ _ _ _ _ _ e;refine ⟨hfn,fun cs=> ?_⟩;obtain ⟨e',w',fr',⟨u,rfl,hv,hB⟩,s1,s2,s3⟩:=hc f w us H0 hu cs;exact ⟨f,w',u,fr',⟨F.le_refl _,fun _ h=>absurd rfl h,H0.below hB,⟨hB.os,hB.tape,hB.output,hB.size,fun B hB' _=>hB.block B hB'⟩,fun i x h1 h2=>(by rw [h1] at h2;cases h2),ah _,fun k hk=> .inl hk,fun i a b=>absurd b (Hw.2 a)⟩,hv,s1,s2,s3⟩
 ·obtain ⟨b,v,h',nx'⟩:=r;exact (hk _ _ _ _ _ _ _ _ _ e).2.2.2.1
end
section
open Go
variable {P:Program}
def eqV:Value→Value→Bool
 | .int k x, .int j y=>sameKind k j && yP x y
 | _,_=>false
theorem VL {a b:Value} (h:eqV a b=true):a=b:=by
 unfold eqV at h;split at h
 ·rw [cZ] at h;rw [kJ h.1];have:=h.2;rw [rD] at this;congr 1;simpa using this
 ·cases h
def dP:List AV→List Value→Bool
 | [],[]=>true
 | .lit a::l,v::vs=>eqV a v && dP l vs
 | _,_=>false
theorem F3 {f:F}:∀{l:List AV} {vs us:List Value},dP l vs=true→bg f l us→us=vs
 | [],[],_,_, .nil=>rfl
 | .lit a::l,v::vs,_,h, .cons hx hs=>by
  unfold dP at h;rw [cZ] at h;cases hx;rw [VL h.1,F3 h.2 hs]
 | [],_::_,_,h,_=>by simp [dP] at h
 | a::_,[],_,h,_=>by cases a<;>simp [dP] at h
 | .ptr .. ::_,_::_,_,h,_=>by simp [dP] at h
 | .slc .. ::_,_::_,_,h,_=>by simp [dP] at h
 | .dU .. ::_,_::_,_,h,_=>by simp [dP] at h
 | .agg .. ::_,_::_,_,h,_=>by simp [dP] at h
 | .iG .. ::_,_::_,_,h,_=>by simp [dP] at h
 | .fn .. ::_,_::_,_,h,_=>by simp [dP] at h
 | .tX .. ::_,_::_,_,h,_=>by simp [dP] at h
 | .map .. ::_,_::_,_,h,_=>by simp [dP] at h
 | .oz .. ::_,_::_,_,h,_=>by simp [dP] at h
 | .any::_,_::_,_,h,_=>by simp [dP] at h
 | .res .. ::_,_::_,_,h,_=>by simp [dP] at h
def mX:List Value→List Value→Bool
 | [],[]=>true
 | a::l,v::vs=>eqV a v && mX l vs
 | _,_=>false
theorem pK:∀{l vs:List Value},mX l vs=true→l=vs
 | [],[],_=>rfl
 | a::l,v::vs,h=>by
  unfold mX at h;rw [cZ] at h;rw [VL h.1,pK h.2]
 | [],_::_,h=>by simp [mX] at h
 | _::_,[],h=>by simp [mX] at h
theorem HR.wD {f:F} {h:Nat→Option OB} {w:World} (H0:HR f h w) {b n:Nat} {el:TypeId} {l:List AV} (hb:h b=some (.cells n true el l)) {want:List Value} (hl:dP l want=true):
  ∃B N,f b=some (B,0,N)∧B<w.heap.size∧∀j,j<want.length→w.cell? ⟨B,j,none⟩=want[j]?:=by
 obtain ⟨B,s,N,C,fr,h1,h2,h3,h4,h5,h6,h7⟩:=H0.cells hb;obtain rfl:=H0.exact hb h1 rfl;refine ⟨B,N,h1,H0.dom b _ h1,fun j hj=> ?_⟩;have hw:=F3 hl h6;have hn:want.length≤n:=by rw [← hw];simp;omega
 rw [← hw];simp only [World.cell?,h2,qdh,ME,qV];rw [tQ (by omega)];simp
theorem HR.FU {f:F} {h:Nat→Option OB} {w:World} (H0:HR f h w) {g:Nat} (hg:g<gN) {t:List Value} (hb:h g=some (.tab t)):g<w.heap.size∧∀j,j<t.length→w.cell? ⟨g,j,none⟩=t[j]?:=by
 obtain ⟨B,s,n,o,h1,h2,C,E,fr,rfl,h3⟩:=H0.obj g _ hb;obtain ⟨m,e⟩:=H0.gl g hg;rw [e] at h1;simp only [az,bJ] at h1;obtain ⟨rfl,rfl,rfl⟩:=h1;refine ⟨H0.dom g _ e,fun j hj=> ?_⟩;simp only [World.cell?,h2,qdh,ME,qV];have:=h3 j hj
 rwa [nR] at this
noncomputable def Qe (om:Nat) (tab:List Value) (fid:FuncId) (len:Nat) (want:List Value) (res:AV):aZ:=fun _ g args h nx=>match Nat.beq g fid with
 | false=>none
 | true=>match args with
  | [.slc b off n _]=>match Nat.beq off 0 && Nat.beq n len,h.get b,h.get om with
   | true,some (.cells _ true _ l),some (.tab t)=>iM (dP l want && mX t tab) (some (false,res,h,nx))
   | _,_,_=>none
  | _=>none
theorem UT {om:Nat} (ht:om<gN) {tab:List Value} {fid:FuncId} {len:Nat} {want:List Value} {res:AV} (hfn:∃fn,P.funcs[fid]?=some fn∧fn.body.isSome=true)
  (hc:∀(f:F) (w:World) (B c:Nat),B<w.heap.size→om<w.heap.size→(∀j,j<tab.length→w.cell? ⟨om,j,none⟩=tab[j]?)→(∀j,j<want.length→w.cell? ⟨B,j,none⟩=want[j]?)→
   Calls P fid #[.slice (some ⟨B,0,none⟩) len c] w fun e w'=>∃u,e= .returned u∧VR f res u∧RowKit.Below w.heap.size w w'):HK P (Qe om tab fid len want res):=HK.of fun lim g args h nx b v h' nx' e=>by
 unfold Qe at e;split at e
 ·cases e
 ·rename_i hg;obtain rfl:=eF hg;split at e
  ·rename_i bb off n c;split at e
   ·rename_i m el l t hq hb hT;rw [cZ] at hq;obtain rfl:=eF hq.1;obtain rfl:=eF hq.2;obtain ⟨he,e⟩:=aY e;rw [cZ] at he;simp only [az,bJ] at e;obtain ⟨rfl,rfl,rfl,rfl⟩:=e;refine ⟨rfl,rfl,rfl,hfn,fun f w us H0 hu=> ?_⟩;obtain ⟨B,N,h1,h2,h3⟩:=H0.wD hb he.1;obtain ⟨h4,h5⟩:=H0.FU ht hT;rw [pK he.2] at h5;cases hu with
    | cons hx hs=>
     cases hs;cases hx with
     | slc hf=>
      rw [h1] at hf;simp only [az,bJ] at hf;obtain ⟨rfl,rfl,rfl⟩:=hf;exact hc f w _ _ h2 h4 h5 h3
   ·cases e
  ·cases e
def Om (K L:aZ):aZ:=fun lim g args h nx=>match K lim g args h nx with
 | some r=>some r
 | none=>L lim g args h nx
theorem HK.or {K L:aZ} (hK:HK P K) (hL:HK P L):HK P (Om K L):=by
 refine ⟨fun lim g args h nx b v h' nx' e=> ?_,fun lim g args h nx b v h' nx' e=> ?_,fun lim g args h nx r e=> ?_⟩<;>unfold Om at e<;>split at e
 ·rename_i hk;rw [e] at hk;exact hK.g _ _ _ _ _ _ _ _ _ hk
 ·exact hL.g _ _ _ _ _ _ _ _ _ e
 ·rename_i hk;rw [e] at hk;exact hK.s _ _ _ _ _ _ _ _ _ hk
 ·exact hL.s _ _ _ _ _ _ _ _ _ e
 ·rename_i hk;exact hK.b _ _ _ _ _ _ hk
 ·exact hL.b _ _ _ _ _ _ e
end
section
open Go
variable {P:Program}
noncomputable def OP (om:Nat) (tab:List Value) (fid:FuncId) (vG vJ:List Value) (res:AV):aZ:=fun _ g args h nx=>match Nat.beq g fid with
 | false=>none
 | true=>match args with
  | [.slc b off n _]=>match Nat.beq off 0 && Nat.beq n 2,h.get b,h.get om with
   | true,some (.cells _ true _ [.slc r0 o0 n0 _, .lit (.bool _), .slc r1 o1 n1 _, .lit (.bool _)]),some (.tab t)=>match h.get r0,h.get r1 with
    | some (.cells _ true _ l0),some (.cells _ true _ l1)=>iM ((Nat.beq o0 0 && Nat.beq n0 2 && (Nat.beq o1 0 && Nat.beq n1 2)) && (dP l0 vG && dP l1 vJ && mX t tab)) (some (false,res,h,nx))
    | _,_=>none
   | _,_,_=>none
  | _=>none
theorem Nn {om:Nat} (ht:om<gN) {tab:List Value} {fid:FuncId} {vG vJ:List Value} {res:AV} (hfn:∃fn,P.funcs[fid]?=some fn∧fn.body.isSome=true)
  (hc:∀(f:F) (w:World) (B B0 B1 c c0 c1:Nat) (f0 f1:Bool),B<w.heap.size→B0<w.heap.size→B1<w.heap.size→om<w.heap.size→(∀j,j<tab.length→w.cell? ⟨om,j,none⟩=tab[j]?)→
   (∀j,j<4→w.cell? ⟨B,j,none⟩=([.slice (some ⟨B0,0,none⟩) 2 c0, .bool f0, .slice (some ⟨B1,0,none⟩) 2 c1, .bool f1]:List Value)[j]?)→(∀j,j<vG.length→w.cell? ⟨B0,j,none⟩=vG[j]?)→(∀j,j<vJ.length→w.cell? ⟨B1,j,none⟩=vJ[j]?)→
   Calls P fid #[.slice (some ⟨B,0,none⟩) 2 c] w fun e w'=>∃u,e= .returned u∧VR f res u∧RowKit.Below w.heap.size w w'):HK P (OP om tab fid vG vJ res):=HK.of fun lim g args h nx b v h' nx' e=>by
 unfold OP at e;split at e
 ·cases e
 ·rename_i hg;obtain rfl:=eF hg;split at e
  ·rename_i bb off n c;split at e
   ·rename_i m el r0 o0 n0 c0 x0 r1 o1 n1 c1 x1 t hq hb hT;rw [cZ] at hq;obtain rfl:=eF hq.1;obtain rfl:=eF hq.2;split at e
    ·rename_i m0 el0 l0 m1 el1 l1 hr0 hr1;obtain ⟨he,e2⟩:=aY e;clear e;simp only [cZ] at he;obtain ⟨⟨⟨a1,a2⟩,a3,a4⟩,⟨b1,b2⟩,b3⟩:=he;obtain rfl:=eF a1;obtain rfl:=eF a2;obtain rfl:=eF a3;obtain rfl:=eF a4;cases e2;refine ⟨rfl,rfl,rfl,hfn,fun f w us H0 hu=> ?_⟩;obtain ⟨B0,N0,p1,p2,p3⟩:=H0.wD hr0 b1;obtain ⟨B1,N1,q1,q2,q3⟩:=H0.wD hr1 b2;obtain ⟨h4,h5⟩:=H0.FU ht hT;rw [pK b3] at h5;obtain ⟨B,s,N,C,fr,k1,k2,k3,k4,k5,k6,k7⟩:=H0.cells hb;obtain rfl:=H0.exact hb k1 rfl;cases hu with
     | cons hx hs=>
      cases hs;cases hx with
      | slc hf=>
       rw [k1] at hf;simp only [az,bJ] at hf;obtain ⟨rfl,rfl,rfl⟩:=hf;simp only [nQ,PS] at k3
       have key:(C.toList.drop 0).take m=[.slice (some ⟨B0,0,none⟩) 2 c0, .bool x0, .slice (some ⟨B1,0,none⟩) 2 c1, .bool x1]:=by
        generalize (C.toList.drop 0).take m=L at k6;cases k6 with
        | cons g1 k6=>cases k6 with
         | cons g2 k6=>cases k6 with
          | cons g3 k6=>cases k6 with
           | cons g4 k6=>
            cases k6;cases g2;cases g4;cases g1 with
            | slc y1=>
             rw [p1] at y1;simp only [az,bJ] at y1;obtain ⟨rfl,rfl,rfl⟩:=y1;cases g3 with
             | slc y2=>
              rw [q1] at y2;simp only [az,bJ] at y2;obtain ⟨rfl,rfl,rfl⟩:=y2;rfl
       refine hc f w B B0 B1 _ c0 c1 x0 x1 (H0.dom _ _ k1) p2 q2 h4 h5 (fun j hj=> ?_) p3 q3;rw [← key];simp only [World.cell?,k2,qdh,ME,qV];rw [tQ (by omega)];simp
    ·cases e
   ·cases e
  ·cases e
end
section
open Go
variable {P:Program}
abbrev Ph:=List (Nat×Nat)
def vw (i:Nat):Ph→Option Nat
 | []=>none
 | (a,b)::l=>match Nat.beq a i with
  | true=>some b
  | false=>vw i l
mutual
def aft:AV→AV→Ph
 | .ptr b _, .ptr c _=>[(b,c)]
 | .slc b _ _ _, .slc c _ _ _=>[(b,c)]
 | .dU b _ _ _, .dU c _ _ _=>[(b,c)]
 | .agg l, .agg m=>qy l m
 | _,_=>[]
def qy:List AV→List AV→Ph
 | a::l,b::m=>aft a b++qy l m
 | _,_=>[]
end
noncomputable def CJ (hP h:H):Nat→Ph→Ph→Ph
 | 0,_,d=>d
 | _+1,[],d=>d
 | n+1,(i,j)::t,d=>match vw i d with
  | some _=>CJ hP h n t d
  | none=>match hP.get i,h.get j with
   | some (.cells _ _ _ c),some (.cells _ _ _ c')=>CJ hP h n (qy c c'++t) ((i,j)::d)
   | _,_=>CJ hP h n t ((i,j)::d)
def eqW:Value→Value→Bool
 | .int k x, .int j y=>sameKind k j && yP x y
 | .bool x, .bool y=>match x,y with | true,true=>true | false,false=>true | _,_=>false
 | .string x, .string y=>x==y
 | .slice none 0 0, .slice none 0 0=>true
 | .pointer none, .pointer none=>true
 | _,_=>false
theorem WQ {a b:Value} (h:eqW a b=true):a=b:=by
 unfold eqW at h;split at h
 ·rw [cZ] at h;rw [kJ h.1];have:=h.2;rw [rD] at this;congr 1;simpa using this
 ·split at h
  ·rfl
  ·rfl
  ·cases h
 ·rw [(MapKept.bytes_beq _ _).1 h]
 ·rfl
 ·rfl
 ·cases h
def toB (φ:Ph) (i j:Nat):Bool:=match vw i φ with
 | some k=>Nat.beq k j
 | none=>false
mutual
def ED (φ:Ph):AV→AV→Bool
 | .lit v, .lit u=>eqW v u
 | .ptr i o, .ptr j p=>toB φ i j && Nat.beq o p
 | .slc i o l c, .slc j p m d=>toB φ i j && (Nat.beq o p && (Nat.beq l m && Nat.beq c d))
 | .dU i o l c, .dU j p m d=>toB φ i j && (Nat.beq o p && (Nat.beq l m && Nat.beq c d))
 | .agg l, .agg m=>wz φ l m
 | _,_=>false
def wz (φ:Ph):List AV→List AV→Bool
 | [],[]=>true
 | a::l,b::m=>ED φ a b && wz φ l m
 | _,_=>false
end
def FB (φ:Ph) (f:F):F:=fun i=>match vw i φ with
 | some j=>f j
 | none=>if i<gN then f i else none
theorem ab9 {φ:Ph} {i j:Nat} (h:toB φ i j=true):vw i φ=some j:=by
 unfold toB at h;split at h
 ·rename_i k e;rw [e,eF h]
 ·cases h
theorem Pm {φ:Ph} {f:F} {i j:Nat} (h:toB φ i j=true):FB φ f i=f j:=by
 unfold FB;rw [ab9 h]
mutual
theorem ada {φ:Ph} {f:F}:∀{a b:AV} {u:Value},ED φ a b=true→VR f b u→VR (FB φ f) a u
 | .lit _, .lit _,_,h, .lit _=>by
  unfold ED at h;rw [← WQ h];exact .lit _
 | .ptr .., .ptr ..,_,h, .ptr hf=>by
  unfold ED at h;rw [cZ] at h;obtain rfl:=eF h.2;exact .ptr (by rw [Pm h.1];exact hf)
 | .slc .., .slc ..,_,h, .slc hf=>by
  unfold ED at h;simp only [cZ] at h;obtain rfl:=eF h.2.1;obtain rfl:=eF h.2.2.1;obtain rfl:=eF h.2.2.2;exact .slc (by rw [Pm h.1];exact hf)
 | .dU .., .dU ..,_,h, .dU hf h1 h2 h3=>by
  unfold ED at h;simp only [cZ] at h;obtain rfl:=eF h.2.1;obtain rfl:=eF h.2.2.1;obtain rfl:=eF h.2.2.2;exact .dU (by rw [Pm h.1];exact hf) h1 h2 h3
 | .agg _, .agg _,_,h, .agg hs=>by
  unfold ED at h;exact .agg (CO h hs)
 | .lit _, .ptr ..,_,h,_ | .lit _, .slc ..,_,h,_ | .lit _, .dU ..,_,h,_ | .lit _, .agg ..,_,h,_ | .lit _, .iG ..,_,h,_ | .lit _, .fn ..,_,h,_ | .lit _, .tX ..,_,h,_ | .lit _, .map ..,_,h,_ | .lit _, .oz ..,_,h,_ | .lit _, .any,_,h,_ | .lit _, .res ..,_,h,_=>by simp [ED] at h
 | .ptr .., .lit _,_,h,_ | .ptr .., .slc ..,_,h,_ | .ptr .., .dU ..,_,h,_ | .ptr .., .agg ..,_,h,_ | .ptr .., .iG ..,_,h,_ | .ptr .., .fn ..,_,h,_ | .ptr .., .tX ..,_,h,_ | .ptr .., .map ..,_,h,_ | .ptr .., .oz ..,_,h,_ | .ptr .., .any,_,h,_ | .ptr .., .res ..,_,h,_=>by simp [ED] at h
 | .slc .., .lit _,_,h,_ | .slc .., .ptr ..,_,h,_ | .slc .., .dU ..,_,h,_ | .slc .., .agg ..,_,h,_ | .slc .., .iG ..,_,h,_ | .slc .., .fn ..,_,h,_ | .slc .., .tX ..,_,h,_ | .slc .., .map ..,_,h,_ | .slc .., .oz ..,_,h,_ | .slc .., .any,_,h,_ | .slc .., .res ..,_,h,_=>by simp [ED] at h
 | .dU .., .lit _,_,h,_ | .dU .., .ptr ..,_,h,_ | .dU .., .slc ..,_,h,_ | .dU .., .agg ..,_,h,_ | .dU .., .iG ..,_,h,_ | .dU .., .fn ..,_,h,_ | .dU .., .tX ..,_,h,_ | .dU .., .map ..,_,h,_ | .dU .., .oz ..,_,h,_ | .dU .., .any,_,h,_ | .dU .., .res ..,_,h,_=>by simp [ED] at h
 | .agg .., .lit _,_,h,_ | .agg .., .ptr ..,_,h,_ | .agg .., .slc ..,_,h,_ | .agg .., .dU ..,_,h,_ | .agg .., .iG ..,_,h,_ | .agg .., .fn ..,_,h,_ | .agg .., .tX ..,_,h,_ | .agg .., .map ..,_,h,_ | .agg .., .oz ..,_,h,_ | .agg .., .any,_,h,_ | .agg .., .res ..,_,h,_=>by simp [ED] at h
 | .iG ..,_,_,h,_ | .fn ..,_,_,h,_ | .tX ..,_,_,h,_ | .map ..,_,_,h,_ | .oz ..,_,_,h,_ | .any,_,_,h,_ | .res ..,_,_,h,_=>by simp [ED] at h
theorem CO {φ:Ph} {f:F}:∀{l m:List AV} {us:List Value},wz φ l m=true→bg f m us→bg (FB φ f) l us
 | [],[],_,_, .nil=> .nil
 | _::_,_::_,_,h, .cons hx hs=>by
  unfold wz at h;rw [cZ] at h;exact .cons (ada h.1 hx) (CO h.2 hs)
 | [],_::_,_,h,_=>by simp [wz] at h
 | _::_,[],_,h,_=>by simp [wz] at h
end
theorem Nr {φ:Ph}:∀{l m:List AV},wz φ l m=true→l.length=m.length
 | [],[],_=>rfl
 | _::_,_::_,h=>by
  unfold wz at h;rw [cZ] at h;simp [Nr h.2]
 | [],_::_,h=>by simp [wz] at h
 | _::_,[],h=>by simp [wz] at h
def Wm (φ:Ph):Option OB→Option OB→Bool
 | some (.cells n ex e l),some (.cells m fx d k)=>(!ex || fx) && (Nat.beq n m && (Nat.beq e d && wz φ l k))
 | some (.tab l),some (.tab k)=>mX l k
 | _,_=>false
theorem aaq {φ:Ph} {f:F} {a b:Option OB} (h:Wm φ a b=true):∃x y,a=some x∧b=some y∧∀s n o,JW f s n y o→JW (FB φ f) s n x o:=by
 unfold Wm at h;split at h
 ·rename_i n ex e l m fx d k;simp only [cZ,qdc,XP] at h;obtain ⟨h1,h2,h3,h4⟩:=h;obtain rfl:=eF h2;obtain rfl:=eF h3;refine ⟨_,_,rfl,rfl,fun s N o ⟨C,E,fr,a1,a2,a3,a4,a5,a6,a7,a8⟩=>⟨C,E,fr,a1,a2,(by rw [Nr h4,a3]),a4,a5,CO h4 a6,a7,fun he=>a8 ?_⟩⟩;rcases h1 with h1 | h1
  ·rw [he] at h1;cases h1
  ·exact h1
 ·rename_i l k;rw [pK h];exact ⟨_,_,rfl,rfl,fun s n o h=>h⟩
 ·cases h
def Ob:List Nat→Bool
 | []=>true
 | a::l=> !(l.any fun b=>Nat.beq a b) && Ob l
def Rq (φ:Ph):Bool:=Ob (φ.map (·.2)) && φ.all fun p=>(Nat.ble gN p.1 || Nat.beq p.1 p.2) && Nat.ble p.1 29999
theorem tF {i j:Nat}:∀{φ:Ph},vw i φ=some j→(i,j)∈φ
 | [],h=>by cases h
 | (a,b)::l,h=>by
  unfold vw at h;split at h
  ·rename_i e;obtain rfl:=eF e;cases h;exact .head _
  ·exact .tail _ (tF h)
theorem Kq {i k j:Nat}:∀{φ:Ph},Ob (φ.map (·.2))=true→(i,j)∈φ→(k,j)∈φ→i=k
 | [],_,h,_=>by cases h
 | (a,b)::l,hd,h1,h2=>by
  simp only [EF,Ob,cZ,XP,Xw] at hd
  have no:∀x,(x,b)∈l→False:=fun x hx=>by
   have:=hd.1 b (wS.2 ⟨_,hx,rfl⟩);exact this (WV b)
  rcases nA.1 h1 with e1 | k1<;>rcases nA.1 h2 with e2 | k2
  ·cases e1;cases e2;rfl
  ·cases e1;exact (no _ k2).elim
  ·cases e2;exact (no _ k1).elim
  ·exact Kq hd.2 k1 k2
noncomputable def stands (φ:Ph) (hP h:H):List Nat→Bool
 | []=>true
 | i::l=>(match vw i φ with
  | some j=>Wm φ (hP.get i) (h.get j)
  | none=>false) && stands φ hP h l
theorem Ll {φ:Ph} {hP h:H}:∀{L:List Nat},stands φ hP h L=true→∀i∈L,∃j,vw i φ=some j∧Wm φ (hP.get i) (h.get j)=true
 | [],_,_,hi=>by cases hi
 | k::l,hs,i,hi=>by
  unfold stands at hs;rw [cZ] at hs;rcases nA.1 hi with e | hi
  ·subst e;have h1:=hs.1;split at h1
   ·rename_i j e;exact ⟨j,e,h1⟩
   ·cases h1
  ·exact Ll hs.2 i hi
theorem HR.rename {φ:Ph} {hP h:H} {f:F} {w:World} {L:List Nat} (H0:HR f h.get w) (hk:Rq φ=true) (hs:stands φ hP h L=true):HR (FB φ f) (eO hP .e L).get w:=by
 unfold Rq at hk;rw [cZ,qQ] at hk
 have get:∀i ob,(eO hP .e L).get i=some ob→∃j jw,vw i φ=some j∧h.get j=some jw∧∀s n o,JW f s n jw o→JW (FB φ f) s n ob o:=fun i ob e=>by
  rw [dh] at e;split at e
  ·rename_i hi;obtain ⟨j,h1,h2⟩:=Ll hs i hi;obtain ⟨x,y,h3,h4,h5⟩:=aaq (f:=f) h2;rw [h3] at e;cases e;exact ⟨j,y,h1,h4,h5⟩
  ·cases e
 refine ⟨fun i ob e=> ?_,fun i k ob jw x y e e' hx hy hxy=> ?_,fun i x e=> ?_,fun g hg=> ?_⟩
 ·obtain ⟨j,jw,h1,h2,h3⟩:=get i ob e;obtain ⟨B,s,n,o,q1,q2,q3⟩:=H0.obj j jw h2;exact ⟨B,s,n,o,by unfold FB;rw [h1];exact q1,q2,h3 s n o q3⟩
 ·obtain ⟨j,oj,h1,h2,_⟩:=get i ob e;obtain ⟨l,ol,h3,h4,_⟩:=get k jw e';unfold FB at hx hy;rw [h1] at hx;rw [h3] at hy;have:=H0.inj j l oj ol x y h2 h4 hx hy hxy;subst this;exact Kq hk.1 (tF h1) (tF h3)
 ·unfold FB at e;split at e
  ·exact H0.dom _ _ e
  ·split at e
   ·exact H0.dom _ _ e
   ·cases e
 ·obtain ⟨n,e⟩:=H0.gl g hg;refine ⟨n,?_⟩;unfold FB;split
  ·rename_i j hj;have:=hk.2 _ (tF hj);simp only [qdc,cZ] at this;rcases this.1 with h | h
   ·have:=iA h;omega
   ·have:=eF h;subst this;exact e
  ·rw [aC hg];exact e
mutual
def weak:AV→AV→Bool
 | .lit v, .lit u=>eqW v u
 | .lit (.int ..), .any=>true
 | .lit (.bool _), .any=>true
 | .lit (.slice ..), .any=>true
 | .slc .., .any=>true
 | .dU .., .any=>true
 | .ptr .., .any=>true
 | .agg l, .agg m=>yL l m
 | .iG l, .iG m=>yL l m
 | _,_=>false
def yL:List AV→List AV→Bool
 | [],[]=>true
 | a::l,b::m=>weak a b && yL l m
 | _,_=>false
end
mutual
theorem RO {f g:F}:∀(a:AV) {b:AV} {u:Value},weak a b=true→VR f a u→VR g b u
 | .lit v,b,u,h,hv=>by
  cases hv;unfold weak at h;split at h
  ·rename_i e1;cases e1;have:=WQ h;subst this;exact .lit _
  ·rename_i e1;cases e1;exact .any rfl
  ·rename_i e1;cases e1;exact .any rfl
  ·rename_i e1;cases e1;exact .any rfl
  all_goals first | (rename_i e1 _;cases e1;done) | (rename_i e1;cases e1;done) | (cases h;done)
 | .agg l,b,u,h,hv=>by
  cases hv with
  | agg hs=>
   unfold weak at h;split at h
   all_goals first | (rename_i e1 _;cases e1;exact .agg (wu _ h hs)) | (rename_i e1;cases e1;exact .agg (wu _ h hs)) | (rename_i e1 _;cases e1;done) | (rename_i e1;cases e1;done) | (cases h;done)
 | .iG l,b,u,h,hv=>by
  cases hv with
  | iG hs=>
   unfold weak at h;split at h
   all_goals first | (rename_i e1 _;cases e1;exact .iG (wu _ h hs)) | (rename_i e1;cases e1;exact .iG (wu _ h hs)) | (rename_i e1 _;cases e1;done) | (rename_i e1;cases e1;done) | (cases h;done)
 | .slc ..,b,u,h,hv=>by
  cases hv;unfold weak at h;split at h
  all_goals first | exact .any rfl | (rename_i e1 _;cases e1;done) | (rename_i e1;cases e1;done) | (cases h;done)
 | .dU ..,b,u,h,hv=>by
  cases hv;unfold weak at h;split at h
  all_goals first | exact .any rfl | (rename_i e1 _;cases e1;done) | (rename_i e1;cases e1;done) | (cases h;done)
 | .ptr ..,b,u,h,hv=>by
  cases hv;unfold weak at h;split at h
  all_goals first | exact .any rfl | (rename_i e1 _;cases e1;done) | (rename_i e1;cases e1;done) | (cases h;done)
 | .fn ..,_,_,h,_ | .tX ..,_,_,h,_ | .map ..,_,_,h,_ | .oz ..,_,_,h,_ | .any,_,_,h,_ | .res ..,_,_,h,_=>by simp [weak] at h
theorem wu {f g:F}:∀(l:List AV) {m:List AV} {us:List Value},yL l m=true→bg f l us→bg g m us
 | [],[],_,_, .nil=> .nil
 | a::l,b::m,_,h, .cons hx hs=>by
  unfold yL at h;rw [cZ] at h;exact .cons (RO a h.1 hx) (wu l h.2 hs)
 | [],_::_,_,h,_=>by simp [yL] at h
 | _::_,[],_,h,_=>by simp [yL] at h
end
def OW (r:Option (Bool×AV×H×Nat)) (v:AV):Bool:=match r with
 | some (false,u,_,_)=>weak u v
 | _=>false
noncomputable def agc (hP h:H) (sV args:List AV):Ph:=CJ hP h 400 (mV gN 0 |>.map fun g=>(g,g)) [] |>fun d=>CJ hP h 400 (qy sV args) d
noncomputable def Pk (fid:FuncId) (sV:List AV) (hP:H) (L:List Nat) (res:AV):aZ:=fun _ g args h nx=>match Nat.beq g fid with
 | false=>none
 | true=>match agc hP h sV args with
  | φ=>iM (Rq φ && (wz φ sV args && (Nat.ble nx 30000 && stands φ hP h L))) (some (false,res,h,nx))
theorem Zm (hgo:yU P=true) (hmx:P.follows .mixedOrders=true) {K:aZ} (hK:HK P K) {n:Nat} {fid:FuncId} {sV:List AV} {hP:H} {L:List Nat} {res:AV} (hfn:∃fn,P.funcs[fid]?=some fn∧fn.body.isSome=true)
  (hL:L.all (fun i=>Nat.ble i 29999)=true) (he:OW (jB P K (ev P K n) (iH (ev P K n)) 30000 fid sV (eO hP .e L) 30000) res=true):HK P (Pk fid sV hP L res):=by
 have key:∀{lim g args h nx b v h' nx'},Pk fid sV hP L res lim g args h nx=some (b,v,h',nx')→g=fid∧b=false∧v=res∧h'=h∧nx'=nx∧nx≤30000∧∃φ,Rq φ=true∧wz φ sV args=true∧stands φ hP h L=true:=fun {lim g args h nx b v h' nx'} e=>by
  unfold Pk at e;split at e
  ·cases e
  ·rename_i hg;obtain ⟨h1,h2⟩:=aY e;simp only [cZ] at h1;cases h2;exact ⟨eF hg,rfl,rfl,rfl,rfl,iA h1.2.2.1,_,h1.1,h1.2.1,h1.2.2.2⟩
 obtain ⟨u0,h1,n1,he1,hw⟩:∃u0 h1 n1,jB P K (ev P K n) (iH (ev P K n)) 30000 fid sV (eO hP .e L) 30000=some (false,u0,h1,n1)∧weak u0 res=true:=by
  unfold OW at he;split at he
  ·rename_i e;exact ⟨_,_,_,e,he⟩
  ·cases he
 rw [qQ] at hL;refine ⟨fun lim g args h nx b v h' nx' e=> ?_,fun lim g args h nx b v h' nx' e hlim f w us H0 hb hu hn=> ?_,fun lim g args h nx r e=> ?_⟩
 ·obtain ⟨_,_,_,rfl,rfl,_⟩:=key e;exact G.refl _ _
 ·obtain ⟨rfl,rfl,rfl,rfl,rfl,hnx,φ,k1,k2,k3⟩:=key e;have H1:=H0.rename k1 k3
  have hbd:BD (eO hP .e L) 30000:=fun k hk=>by
   cases e:(eO hP .e L).get k with
   | none=>rw [e] at hk;cases hk
   | some ob=>
    rw [dh] at e;split at e
    ·rename_i hi;have:=iA (hL k hi);omega
    ·cases e
  have hno:∀i,30000≤i→FB φ f i=none:=fun i hi=>by
   unfold FB;split
   ·rename_i j hj;unfold Rq at k1;rw [cZ,qQ] at k1;have:=k1.2 _ (tF hj);simp only [cZ] at this;have:=iA this.2;omega
   ·have h9:gN≤30000:=by decide
    rw [aF (by omega)]
  have m:Made sV (eO hP .e L) 30000 w us:=⟨_,H1,CO k2 hu,hbd,hno⟩
  refine ⟨hfn,fun cs=> ?_⟩;obtain ⟨e',w',fr',⟨u,rfl,⟨f2,_,q5,_⟩,hB⟩,s1,s2,s3⟩:=qd hgo hmx hK he1 m cs;cases q5 with
  | cons hx _=>exact ⟨f,w',u,fr',⟨F.le_refl _,fun _ h=>absurd rfl h,H0.below hB,⟨hB.os,hB.tape,hB.output,hB.size,fun B hB' _=>hB.block B hB'⟩,fun i x h1 h2=>(by rw [h1] at h2;cases h2),ah _,fun k hk=> .inl hk,fun i a b=>absurd b (Hw.2 a)⟩,RO _ hw hx,s1,s2,s3⟩
 ·obtain ⟨b,v,h',nx'⟩:=r;obtain ⟨rfl,_⟩:=key e;exact hfn
end
end Ev
namespace Ev
section
open Go
variable {f:F} {w:World}
theorem FZ {h:H} (H0:HR f h.get w) {b o m:Nat} {l:List AV} (hc:sJ h b o m=some l) {B s N:Nat} (hf:f b=some (B,s,N)):∃us,bg f l us∧us.length=m∧∀j,j<m→w.cell? ⟨B,s+o+j,none⟩=us[j]?:=by
 unfold sJ at hc;split at hc
 ·rename_i k ex el c hb;obtain ⟨hle,rfl⟩:=dS hc;have hle:=iA hle;obtain ⟨B',s',N',C,fr,h1,h2,h3,h4,h5,h6,_⟩:=H0.cells hb;rw [hf] at h1;simp only [az,bJ] at h1;obtain ⟨rfl,rfl,rfl⟩:=h1;refine ⟨_,h6.sub o m,by simp;omega,fun j hj=> ?_⟩;rw [su h2,tQ hj,AU,tQ (by omega),AU];simp [yN]
 ·rename_i t hb;obtain ⟨hle,rfl⟩:=dS hc;have hle:=iA hle;obtain ⟨B',s',N',o',h1,h2,C,E,fr,rfl,h3⟩:=H0.obj b _ hb;rw [hf] at h1;simp only [az,bJ] at h1;obtain ⟨rfl,rfl,rfl⟩:=h1;refine ⟨_,bg.lits f _,by simp;omega,fun j hj=> ?_⟩;rw [su h2,tQ hj,AU,yN];exact h3 _ (by omega)
 ·cases hc
def Rj:AV→Bool
 | .slc _ _ l c=>Nat.ble l c
 | .dU _ _ _ _=>true
 | .lit (.slice none 0 0)=>true
 | _=>false
theorem xM {h:H} (H0:HR f h.get w) {x:AV} {u:Value} (hx:VR f x u) (hs:Rj x=true) {z:Nat} {l:List AV} (hc:cellsOf h z x=some l):∃n,Lm x=some n∧((n=0∧l=[]∧∃p,u= .slice p 0 0∧(p=none∨∃B off,p=some ⟨B,off,none⟩))∨∃B off cap us,u= .slice (some ⟨B,off,none⟩) n cap∧n≤cap∧B<w.heap.size∧bg f l us∧us.length=n * z∧∀j,j<n * z→w.cell? ⟨B,off+j,none⟩=us[j]?):=by
 cases x with
 | slc b o n c=>
  have hs:=iA (show Nat.ble n c=true from hs);cases hx with
  | slc hf=>
   rename_i B s N;refine ⟨n,rfl, .inr ?_⟩;unfold cellsOf at hc;simp only at hc;split at hc
   ·rename_i hz;have hz:=eF hz;cases hc;exact ⟨B,s+o,c,[],rfl,hs,H0.dom _ _ hf, .nil,by simp [hz],fun j hj=>by omega⟩
   ·obtain ⟨us,h1,h2,h3⟩:=FZ H0 hc hf;exact ⟨B,s+o,c,us,rfl,hs,H0.dom _ _ hf,h1,h2,h3⟩
 | dU b o n es=>
  cases hx with
  | dU hf hlc ho hn=>
   rename_i c off B s N;unfold cellsOf at hc;simp only at hc;split at hc
   ·rename_i hz;have hz:=eF hz;cases hc;by_cases h0:c=0
    ·subst h0;obtain rfl:n=0:=by omega
     exact ⟨0,rfl, .inl ⟨rfl,rfl,_,rfl, .inr ⟨_,_,rfl⟩⟩⟩
    ·exact ⟨n,rfl, .inr ⟨B,off,c,[],rfl,hlc,H0.dom _ _ hf, .nil,by simp [hz],fun j hj=>by omega⟩⟩
   ·obtain ⟨us,h1,h2,h3⟩:=FZ H0 hc hf;by_cases h0:c=0
    ·subst h0;obtain rfl:n=0:=by omega
     refine ⟨0,rfl, .inl ⟨rfl,?_,_,rfl, .inr ⟨_,_,rfl⟩⟩⟩;have:us=[]:=vR.1 (by omega);subst this;cases h1;rfl
    ·refine ⟨n,rfl, .inr ⟨B,off,c,us,rfl,hlc,H0.dom _ _ hf,h1,h2,fun j hj=> ?_⟩⟩;rw [ho (by omega)];exact h3 j hj
 | lit v=>
  unfold Rj at hs;split at hs
  ·rename_i e;cases e
  ·rename_i e;cases e
  ·rename_i e;cases e;cases hx;cases hc;exact ⟨0,rfl, .inl ⟨rfl,rfl,_,rfl, .inl rfl⟩⟩
  ·cases hs
 | _=>cases hs
end
end Ev
namespace Mem
open Go Go.RowKit
variable {P:Program} {ops:Array Oper} {Q:Exit→Act→World→Prop} {S:World→Prop} {n:Nat} {L:Array Bool→Act→World→Prop}
def wV (P:Program) (ops:Array Oper) (Q:Exit→Act→World→Prop) (S:World→Prop) (n:Nat) (L:Array Bool→Act→World→Prop):Nat→Array Bool→Act→World→Prop
 | 0,s,a,w=>L s a w
 | f+1,s,a,w=>Region.ready .any ops s≠[]∧∀i∈Region.ready .any ops s,i<n∧wpOp P ops Q i (fun a' w'=>S w'∧wV P ops Q S n L f (s.setIfInBounds i true) a' w') a w
theorem Es {g:Nat} (hL:∀s a w,L s a w→wpAny P .any ops Q g s a w) (f:Nat):
  ∀(s:Array Bool) (a:Act) (w:World),wV P ops Q S n L f s a w→wpAny P .any ops Q (f+g) s a w:=by
 induction f with
 | zero=>intro s a w h;rw [nR];exact hL s a w h
 | succ f ih=>
  intro s a w h;rw [Nat.add_right_comm];exact ⟨fun h0=>absurd h0 h.1,fun i hi=>wpOp_mono (fun a' w' h'=>ih _ a' w' h'.2) (h.2 i hi).2⟩
theorem Mv {i:Nat} {oi:Oper} {v:Value} (hi:ops[i]?=some oi) (hsel:∀(j:Nat) (o:Oper) cs b,ops[j]?=some o→o.op≠ .select cs b)
  (hs:Region.sinkB .any ops n=true) (hc:Region.chainB .any ops n=true) (hn:n<ops.size) (hin:i<n) (hend:∀s a w,L s a w→∀j∈Region.ready .any ops s,n≤j)
  (hQ:∀c a w,Q (.panic c) (a.put oi.dst v) w→Q (.panic c) a w) (f:Nat):
  ∀(s:Array Bool) (a:Act) (w:World),HeadInv .any ops n s→
   (∀j oj,ops[j]?=some oj→j≠i→s.getD j true=false→(∀e∈oj.after,Region.binds .any e=true→e.on≠i)→oi.apart ops oj=true)→
   i∈Region.ready .any ops s→YieldsIf P ops S oi v a→S w→wV P ops Q S n L f (s.setIfInBounds i true) (a.put oi.dst v) w→wV P ops Q S n L (f+1) s a w:=by
 induction f with
 | zero=>
  intro s a w inv _ hr hy hS H;have hun:=(OH.1 hr).1;refine ⟨qdf hr,fun j hj=> ?_⟩;have hjn:j<n:=qdp fun h=>tail_waits hs hc hn inv _ i rfl hin hun j h hj;refine ⟨hjn,?_⟩;by_cases e:j=i
  ·subst e;exact hy.wpOp hi hS ⟨hS,H⟩
  ·exact absurd (hend _ _ _ H j (ready_mono hj e)) (Nat.not_le_of_lt hjn)
 | succ f ih=>
  intro s a w inv hfree hr hy hS H;have hun:=(OH.1 hr).1;refine ⟨qdf hr,fun j hj=> ?_⟩;have hjn:j<n:=qdp fun h=>tail_waits hs hc hn inv _ i rfl hin hun j h hj;refine ⟨hjn,?_⟩;by_cases e:j=i
  ·subst e;exact hy.wpOp hi hS ⟨hS,H⟩
  ·obtain ⟨hju,oj,hoj,hall⟩:=OH.1 hj
   have hno:∀d∈oj.after,Region.binds .any d=true→d.on≠i:=by
    intro d hd hb hq;have:=hall d hd hb;rw [hq,getD_both hun] at this;cases this
   have h2:=wpOp_putIf hoj (hfree j oj hoj e hju hno) (fun cs b=>hsel i oi cs b hi) (fun cs b=>hsel j oj cs b hoj) hQ hy (H.2 j (ready_mono hj e)).2;refine wpOp_mono (fun a' w' h3=>⟨h3.2.1,ih _ a' w' (inv.set hj hjn) ?_ (ready_mono hr (PT e)) h3.1 h3.2.1 ?_⟩) h2
   ·intro k ok hk hki C8 agR;refine hfree k ok hk hki ?_ agR;by_cases q:j=k
    ·subst q;exact hju
    ·rwa [Ii true q] at C8
   ·rw [Array.setIfInBounds_comm _ _ e];exact h3.2.2
def jE (P:Program) (l:List Oper) (Q:Exit→Act→World→Prop) (S:World→Prop) (n f:Nat) (s:Array Bool) (a:Act) (w:World):Prop:=
 HeadInv .any l.toArray n s→wV P l.toArray Q S n (fun s' a' w'=>Region.seqB .any l.toArray (l.length - n) n s'=true∧wpList P l.toArray Q (l.drop n) a' w') f s a w
def mh (ops:Array Oper) (n:Nat):Bool:=Region.noSelect ops && Region.sinkB .any ops n && Region.chainB .any ops n && decide (n<ops.size)
variable {l:List Oper}
theorem Ou {i:Nat} {oi:Oper} {v:Value} {f:Nat} {s:Array Bool} {a:Act} {w:World} (hB:mh l.toArray n=true) (hi:l.toArray[i]?=some oi) (hin:i<n)
  (hf:Region.free .any l.toArray s i=true) (hr:(Region.ready .any l.toArray s).contains i=true) (hQ:∀c a w,Q (.panic c) (a.put oi.dst v) w→Q (.panic c) a w)
  (hy:YieldsIf P l.toArray S oi v a) (hS:S w) (h:jE P l Q S n f (s.setIfInBounds i true) (a.put oi.dst v) w):jE P l Q S n (f+1) s a w:=by
 intro inv;simp only [mh,cZ,tT] at hB;have hr':i∈Region.ready .any l.toArray s:=by simpa using hr
 exact Mv hi (Region.noSelect_spec hB.1.1.1) hB.1.1.2 hB.1.2 hB.2 hin (fun s' a' w' hL=>seqB_ready hL.1) hQ f s a w inv (Region.free_spec hi hf) hr' hy hS (h (inv.set hr' hin))
def dx (P:Program) (l:List Oper) (Q:Exit→Act→World→Prop) (S:World→Prop) (n f:Nat) (s:Array Bool) (a:Act) (w:World) (rs:List Nat):Prop:=
 ∀i∈rs,i<n∧wpOp P l.toArray Q i (fun a' w'=>S w'∧jE P l Q S n f (s.setIfInBounds i true) a' w') a w
theorem dx.nil {f:Nat} {s:Array Bool} {a:Act} {w:World}:dx P l Q S n f s a w []:=fun _ h=>by cases h
theorem dx.cons {f:Nat} {s:Array Bool} {a:Act} {w:World} {i:Nat} {o:Oper} {rs:List Nat} (hin:i<n) (ho:l.toArray[i]?=some o)
  (h:∀K':Act→World→Prop,Shut (∀a w,S w→(S w→jE P l Q S n f (s.setIfInBounds i true) a w)→K' a w)→if Region.wanted o (yielded l.toArray a.tmps)=true then Oper.wp P o a w K' Q else K' (a.put o.dst undef) w)
  (hs:dx P l Q S n f s a w rs):dx P l Q S n f s a w (i::rs):=fun j hj=>by
 rcases nA.1 hj with rfl | hj
 ·exact ⟨hin,wpOp_step ho (fun K' hK=>h K' (fun a w hS hW=>hK a w ⟨hS,hW hS⟩))⟩
 ·exact hs j hj
theorem lH {rs:List Nat} {f:Nat} {s:Array Bool} {a:Act} {w:World} (hr:Region.ready .any l.toArray s=rs) (hne:rs≠[]) (h:dx P l Q S n f s a w rs):jE P l Q S n (f+1) s a w:=by
 intro inv;subst hr;refine ⟨hne,fun i hi=>⟨(h i hi).1,wpOp_mono (fun a' w' h'=>⟨h'.1,h'.2 (inv.set hi (h i hi).1)⟩) (h i hi).2⟩⟩
theorem aP {s:Array Bool} {a:Act} {w:World} (hB:Region.seqB .any l.toArray (l.length - n) n s=true) (h:wpList P l.toArray Q (l.drop n) a w):jE P l Q S n 0 s a w:=fun _=>⟨hB,h⟩
theorem aH {id:Nat} {a:Act} {w:World} (n:Nat) (hm:P.follows .mixedOrders=true) (hB:mh l.toArray n=true) (hS:S w.drew)
  (h:S w.drew→jE P l Q S n n (Array.replicate l.length false) a w.drew):(Code.region id l.toArray true).wp P Q a w:=by
 have hB':=hB;simp only [mh,cZ,tT] at hB';have hn:n<l.length:=by simpa using hB'.2
 have hz:HeadInv .any l.toArray n (Array.replicate l.length false):=
  ⟨by simp,fun j oj _ hl=>(by rw [getD_replicate_false] at hl;cases hl),fun t _ ht=>getD_in (by simpa using ht) (getD_replicate_false _ _)⟩
 have H:=h hS hz;refine wp_region_any hm ?_
 have:=Es (Q:=Q) (g:=l.length - n) (fun s a' w' hL=>by
  have hdl:(l.drop n).length=l.length - n:=by simp
  have:=wpAny_of_seq (md:= .any) (Q':=Q) (l.drop n) n s a' w' (fun j=>by simp [AU]) (by rw [hdl];exact hL.1) hL.2
  rwa [hdl] at this) _ _ _ _ H
 rw [show n+(l.length - n)=l.length by omega] at this;simpa using this
end Mem
section
open Go Go.RowKit Mem
theorem Mem.Rd.nonempty {α:Type} {f:α→Value} {w:World} {p:Option Addr} {n k:Nat} {l:List α} (h:Rd f w (.slice p n k) l) (hn:0<n):∃b o,p=some ⟨b,o,none⟩∧n=l.length∧n≤k∧At f w b o l∧b<w.heap.size:=by
 rcases h with ⟨q,he,rfl⟩ | ⟨b,o,cap,he,hc,ha,hlt⟩
 ·injection he with e1 e2 e3;omega
 ·injection he with e1 e2 e3
  subst e1 e2 e3;exact ⟨b,o,rfl,rfl,hc,ha,hlt⟩
theorem Mem.Rd.len {α:Type} {f:α→Value} {w:World} {p:Option Addr} {n k:Nat} {l:List α} (h:Rd f w (.slice p n k) l):n=l.length:=by
 obtain ⟨_,_,he⟩:=h.slice;injection he
theorem Uz {w:World} {p:Option Addr} {n c:Nat} {l:List UInt8} (hu:Rd aV w (.slice p n c) l) (k:Nat) (hk:k<n):∃(b o:Nat) (x:UInt8),p=some ⟨b,o,none⟩∧l[k]?=some x∧∀X,Below w.heap.size w X→X.cell? ⟨b,o+k,none⟩=some (.int .u8 (x.toNat:Int)):=by
 have hl:=hu.len;obtain ⟨b,o,rfl,_,_,ha,hlt⟩:=hu.nonempty (by omega);have hkl:k<l.length:=by omega
 exact ⟨b,o,l[k],rfl,bM hkl,fun X hX=>((hX.cell (p:=⟨b,o+k,none⟩) hlt).trans (ha k hkl)).trans (by rw [bM hkl];rfl)⟩
theorem aI (w:World) (b i:Nat) (v:Value):w.grownBy (w.setCell ⟨b,i,none⟩ v) (some b):=
 ⟨rfl,rfl,rfl,(KeepsWalks.setCell w ⟨b,i,none⟩ v).size,fun k _ hk=>G9 _ _ _ k (fun e=>hk (by rw [e]))⟩
def nu {α:Type} (K:Nat) (enc:α→List OC) (w:World) (v:Value) (l:List α):Prop:=
 (∃p,v= .slice p 0 0∧l=[])∨∃b o cap,v= .slice (some ⟨b,o,none⟩) l.length cap∧l.length≤cap∧(∀i (h:i<l.length),At oV w b (o+i * K) (enc l[i]))∧b<w.heap.size
section
variable {α:Type} {K:Nat} {enc:α→List OC} {w w':World} {v:Value} {l:List α}
theorem nu.slice (h:nu K enc w v l):∃p cap,v= .slice p l.length cap:=by
 rcases h with ⟨p,rfl,rfl⟩ | ⟨b,o,cap,rfl,_⟩
 ·exact ⟨p,0,rfl⟩
 ·exact ⟨_,_,rfl⟩
theorem nu.below (h:nu K enc w v l) (hb:Below w.heap.size w w'):nu K enc w' v l:=by
 rcases h with hn | ⟨b,o,cap,rfl,hc,ha,hlt⟩
 ·exact .inl hn
 ·exact .inr ⟨b,o,cap,rfl,hc,fun i hi=>(ha i hi).below hb hlt,bO hlt hb.size⟩
theorem nu.elem {p:Option Addr} {n c:Nat} (h:nu K enc w (.slice p n c) l) (k:Nat) (hk:k<l.length):∃b o,p=some ⟨b,o,none⟩∧At oV w b (o+k * K) (enc l[k])∧l.length≤c∧b<w.heap.size:=by
 rcases h with ⟨_,_,rfl⟩ | ⟨b,o,cap,h1,hc,ha,hlt⟩
 ·simp at hk
 ·cases h1;exact ⟨b,o,rfl,ha k hk,hc,hlt⟩
end
def OI {α:Type} (R:World→Value→α→Prop) (w:World) (v:Value) (l:List α):Prop:=
 (∃p,v= .slice p 0 0∧l=[])∨∃b o cap,v= .slice (some ⟨b,o,none⟩) l.length cap∧l.length≤cap∧(∀i (h:i<l.length),∃u,w.cell? ⟨b,o+i,none⟩=some u∧R w u l[i])∧b<w.heap.size
section
variable {α:Type} {R:World→Value→α→Prop} {w w':World} {v:Value} {l:List α}
theorem OI.slice (h:OI R w v l):∃p cap,v= .slice p l.length cap:=by
 rcases h with ⟨p,rfl,rfl⟩ | ⟨b,o,cap,rfl,_⟩
 ·exact ⟨p,0,rfl⟩
 ·exact ⟨_,_,rfl⟩
theorem OI.below (h:OI R w v l) (hb:Below w.heap.size w w') (hR:∀u x,R w u x→R w' u x):OI R w' v l:=by
 rcases h with hn | ⟨b,o,cap,rfl,hc,ha,hlt⟩
 ·exact .inl hn
 ·refine .inr ⟨b,o,cap,rfl,hc,fun i hi=> ?_,bO hlt hb.size⟩;obtain ⟨u,h1,h2⟩:=ha i hi;exact ⟨u,(hb.cell (p:=⟨b,o+i,none⟩) hlt).trans h1,hR _ _ h2⟩
theorem OI.elem {p:Option Addr} {n c:Nat} (h:OI R w (.slice p n c) l) (k:Nat) (hk:k<l.length):∃b o u,p=some ⟨b,o,none⟩∧w.cell? ⟨b,o+k,none⟩=some u∧R w u l[k]∧l.length≤c∧b<w.heap.size:=by
 rcases h with ⟨_,_,rfl⟩ | ⟨b,o,cap,h1,hc,ha,hlt⟩
 ·simp at hk
 ·cases h1;obtain ⟨u,h1,h2⟩:=ha k hk;exact ⟨b,o,u,rfl,h1,h2,hc,hlt⟩
end
def nV (n:Nat):Value:= .int .i64 (n:Int)
theorem uQ (x:Nat):(nV x).oneCell'=true:=rfl
theorem iT {w:World} {p:Option Addr} {n c:Nat} {l:List Nat} (hu:Rd nV w (.slice p n c) l) (k:Nat) (hk:k<n):∃(b o:Nat),p=some ⟨b,o,none⟩∧∀X,Below w.heap.size w X→X.cell? ⟨b,o+k,none⟩=some (.int .i64 (l.getD k 0:Nat)):=by
 have hl:=hu.len;obtain ⟨b,o,rfl,_,_,ha,hlt⟩:=hu.nonempty (by omega);have hkl:k<l.length:=by omega
 exact ⟨b,o,rfl,fun X hX=>((hX.cell (p:=⟨b,o+k,none⟩) hlt).trans (ha k hkl)).trans (by rw [bM hkl,dD,bM hkl];rfl)⟩
theorem uI {w:World} {p:Option Addr} {n c:Nat} {l:List Bool} (hu:Rd Value.bool w (.slice p n c) l) (k:Nat) (hk:k<n):∃(b o:Nat),p=some ⟨b,o,none⟩∧∀X,Below w.heap.size w X→X.cell? ⟨b,o+k,none⟩=some (.bool (l.getD k false)):=by
 have hl:=hu.len;obtain ⟨b,o,rfl,_,_,ha,hlt⟩:=hu.nonempty (by omega);have hkl:k<l.length:=by omega
 exact ⟨b,o,rfl,fun X hX=>((hX.cell (p:=⟨b,o+k,none⟩) hlt).trans (ha k hkl)).trans (by rw [bM hkl,dD,bM hkl];rfl)⟩
end
section
open Go Go.RowKit Mem
theorem flat_get {α:Type} {K:Nat} (enc:α→List OC):∀(l:List α) (_:∀x∈l,(enc x).length=K) (i:Nat) (hi:i<l.length) (j:Nat),j<(enc l[i]).length→(l.flatMap enc)[i * K+j]?=(enc l[i])[j]?:=by
 intro l
 induction l with
 | nil=>intro _ i hi;simp at hi
 | cons a l ih=>
  intro hk i hi j hj;rw [Md];cases i with
  | zero=>
   simp only [Ty,nR,List.getElem_cons_zero] at hj ⊢;rw [Ig hj]
  | succ i=>
   simp only [List.getElem_cons_succ] at hj ⊢;have ha:(enc a).length=K:=hk a (Bq ..);rw [Kk (by rw [ha,PU];omega),ha];rw [show (i+1) * K+j - K=i * K+j by rw [PU];omega];exact ih (fun x hx=>hk x (Ic _ hx)) i (by simpa using hi) j hj
theorem zH {α:Type} {K:Nat} (enc:α→List OC) (l:List α) (hk:∀x,(enc x).length=K):(l.flatMap enc).length=l.length * K:=by
 induction l with
 | nil=>simp
 | cons a l ih=>rw [Md,fq,hk,ih,nQ,PU];omega
def aT {α:Type} (K:Nat) (enc:α→List OC) (w:World) (base:Nat) (e:TypeId) (v:Value) (l:List α):Prop:=w.ownsRow base e K v l.length ((l.flatMap enc).map oV)
section
variable {α:Type} {K:Nat} {enc:α→List OC} {w w':World} {base:Nat} {e:TypeId} {v:Value} {l:List α}
theorem aT.slice (h:aT K enc w base e v l):∃p cap,v= .slice p l.length cap:=by
 rcases h.2 with ⟨rfl,h0⟩ | ⟨g,cap,cur,rfl,_⟩
 ·exact ⟨none,0,by rw [h0]⟩
 ·exact ⟨_,_,rfl⟩
theorem aT.grown (h:aT K enc w base e v l) {row:Option Nat} (hg:w.grownBy w' row) (hne:∀g,v.ownBlock=some g→some g≠row):aT K enc w' base e v l:=by
 refine ⟨h.1,?_⟩;rcases h.2 with hn | ⟨g,cap,cur,rfl,hbg,hc,rest⟩
 ·exact .inl hn
 ·exact .inr ⟨g,cap,cur,rfl,hbg,(hg.block g (jg.1 hc).1 (hne g rfl)).trans hc,rest⟩
theorem aT.below (h:aT K enc w base e v l) {B:Nat} (hb:Below B w w') (hB:∀g,v.ownBlock=some g→g<B):aT K enc w' base e v l:=by
 refine ⟨h.1,?_⟩;rcases h.2 with hn | ⟨g,cap,cur,rfl,hbg,hc,rest⟩
 ·exact .inl hn
 ·exact .inr ⟨g,cap,cur,rfl,hbg,(hb.block g (hB g rfl)).trans hc,rest⟩
theorem aT.lt (h:aT K enc w base e v l):∀g,v.ownBlock=some g→base≤g∧g<w.heap.size:=by
 intro g hg;rcases h.2 with ⟨rfl,_⟩ | ⟨g2,cap,cur,rfl,hbg,hc,_⟩
 ·cases hg
 ·cases hg;exact ⟨hbg,(jg.1 hc).1⟩
theorem aT.below' (h:aT K enc w base e v l) (hb:Below w.heap.size w w'):aT K enc w' base e v l:=h.below hb fun g hg=>(h.lt g hg).2
theorem aT.mono (h:aT K enc w base e v l) {b':Nat} (hb:b'≤base):aT K enc w b' e v l:=by
 refine ⟨h.1,?_⟩;rcases h.2 with hn | ⟨g,cap,cur,rfl,hbg,rest⟩
 ·exact .inl hn
 ·exact .inr ⟨g,cap,cur,rfl,aL hb hbg,rest⟩
theorem aT.rd (h:aT K enc w base e v l) (hk:∀x,(enc x).length=K):nu K enc w v l:=by
 rcases h.2 with ⟨rfl,h0⟩ | ⟨g,cap,cur,rfl,hb,hg,hn,hm,hs,ht⟩
 ·exact .inl ⟨none,rfl,vR.1 h0⟩
 ·refine .inr ⟨g,0,cap,rfl,hn,fun i hi j hj=> ?_,(jg.1 hg).1⟩
  have h1:((l.flatMap enc).map oV)[i * K+j]?=(enc l[i])[j]?.map oV:=by
   rw [jS,flat_get enc l (fun x _=>hk x) i hi j hj]
  have hlt:i * K+j<l.length * K:=by
   have:(i+1) * K≤l.length * K:=O7 K hi;rw [hk] at hj;rw [PU] at this;omega
  rw [← ht,tQ hlt] at h1;unfold World.cell?;rw [hg];simp only [nR];show cur[i * K+j]?=_;rw [← h1];simp
theorem aT.nil (w:World) (base:Nat) (e:TypeId):aT K enc w base e (.slice none 0 0) ([]:List α):=World.ownsRow_nil w base e K
theorem aT.ad1 (w:World) (base:Nat) (e:TypeId) (hb:base≤w.heap.size):aT K enc (w.alloc (.cells #[] e)) base e (.slice (some ⟨w.heap.size,0,none⟩) 0 0) ([]:List α):=
 ⟨by simp, .inr ⟨w.heap.size,0,_,rfl,hb,heap_alloc_new w _,ah _,by unfold maxLen;omega,by simp,by simp⟩⟩
theorem aT.type {β:Type} {g:β→Value} {b2:Nat} {e2:TypeId} {v2:Value} {l2:List β} (h1:aT K enc w base e v l) (h2:Mem.Own g w b2 e2 v2 l2) (hne:e≠e2):∀k,v.ownBlock=some k→some k≠v2.ownBlock:=by
 intro k hk e;rcases h1.2 with ⟨rfl,_⟩ | ⟨g1,c1,MU,rfl,_,hc1,_⟩
 ·cases hk
 ·rcases h2.2 with ⟨rfl,_⟩ | ⟨g2,c2,aee,rfl,_,hc2,_⟩
  ·cases e
  ·cases hk;injection e with e
   simp only at e;subst e;rw [hc1] at hc2;injection hc2 with hc2
   injection hc2 with _ hc2
   exact hne hc2
theorem aT.row {β:Type} {g:β→Value} {b2:Nat} {e2:TypeId} {l2:List β} (h1:aT K enc w base e v l) (h2:Row g w b2 e2 l2) (hne:e≠e2):∀k,v.ownBlock=some k→k≠b2:=by
 rintro k hk rfl;rcases h1.2 with ⟨rfl,_⟩ | ⟨g1,c1,MU,rfl,_,hc1,_⟩
 ·cases hk
 ·cases hk;unfold Row at h2;rw [hc1] at h2;injection h2 with hc2
  injection hc2 with _ hc2
  exact hne hc2
theorem lD {β:Type} {f:α→Value} {g:β→Value} {b2:Nat} {e2:TypeId} {l2:List β} (h1:Mem.Own f w base e v l) (h2:Row g w b2 e2 l2) (hne:e≠e2):∀k,v.ownBlock=some k→k≠b2:=by
 rintro k hk rfl;rcases h1.2 with ⟨rfl,_⟩ | ⟨g1,c1,MU,rfl,_,hc1,_⟩
 ·cases hk
 ·cases hk;unfold Row at h2;rw [hc1] at h2;injection h2 with hc2
  injection hc2 with _ hc2
  exact hne hc2
end
structure yM (P:Program) (t e:TypeId) (K bytes:Nat):Prop where
 ht:P.underlying t=some (.slice e)
 hi:∃i z,P.info? e=some i∧i.zero=some z∧i.size=K∧i.bytes=bytes∧z.cells.size=K
theorem yM.mk' {P:Program} {t e:TypeId} {K bytes:Nat} {z:Value} (ht:P.underlying t=some (.slice e)) (h:(P.info? e).map (fun i=>(i.zero,i.size,i.bytes))=some (some z,K,bytes)) (hz:z.cells.size=K):yM P t e K bytes:=by
 obtain ⟨i,h1,h2,h3,h4⟩:=info_parts h;exact ⟨ht,i,z,h1,h2,h3,h4,hz⟩
section
variable {α:Type} {K:Nat} {enc:α→List OC} {w:World} {base:Nat} {e:TypeId} {v:Value} {l:List α}
variable {P:Program} {ops:Array Oper} {rest:List Oper} {o:Oper} {a:Act} {Q:Exit→Act→World→Prop}
theorem oF {t:TypeId} {bytes:Nat} (E:yM P t e K bytes) (hK:0<K) (hk:∀x,(enc x).length=K) (s x:Operand) (hgd:o.guard=none) (ho:o.op= .call {callee:= .builtin .append,args:= #[s,x],argTypes:= #[t,t]})
  (hs:a.eval s=v) (hown:aT K enc w base e v l) (y:α) (C:Array Value) (hC:C=((enc y).map oV).toArray) (e1:TypeId) (hx:a.eval x= .slice (some ⟨w.heap.size,0,none⟩) 1 1)
  (hn:(l.length+1) * bytes≤140737488355328) (hn2:l.length+1≤140737488355328) (hbase:base≤w.heap.size) (r:List α) (hr:l++[y]=r)
  (h:∀p cap w',aT K enc w' base e (.slice p r.length cap) r→Below base w w'→(w.alloc (.cells C e1)).grownBy w' v.ownBlock→wpList P ops Q rest (a.put o.dst (.slice p r.length cap)) w'):
  wpList P ops Q (o::rest) a (w.alloc (.cells C e1)):=by
 subst hC;obtain ⟨i,z,hi,hz,hs1,hby,hz1⟩:=E.hi;have hown':(w.alloc (.cells ((enc y).map oV).toArray e1)).ownsRow base e K v l.length ((l.flatMap enc).map oV):=World.ownsRow.alloc hown _;have hrow:Row oV (w.alloc (.cells ((enc y).map oV).toArray e1)) w.heap.size e1 (enc y):=Row.new _ _ rfl;refine wpList_append_own _ hgd s x t ho base e i z K bytes E.ht hi hz hs1 hby hz1 hK v l.length ((l.flatMap enc).map oV) hs hown' ⟨w.heap.size,0,none⟩ 1 1 ((enc y).map oV) hx (by simp [hk]) ?_ ?_ (by unfold maxLen;omega) hn (by simp;omega) ?_
 ·intro j u hj;have h2:((⟨w.heap.size,0,none⟩:Addr).add j)=⟨w.heap.size,j,none⟩:=by unfold Addr.add;split<;>simp_all
  rw [h2,hrow.cell?,← hj,jS]
 ·intro u hu;obtain ⟨z,_,rfl⟩:=wS.1 hu;exact z.2
 ·intro v' w1 hown2 hg hnil
  have ho':aT K enc w1 base e v' r:=by
   unfold aT;rw [← hr,fq,qcY,xm];simpa using hown2
  obtain ⟨p,cap,rfl⟩:=ho'.slice;exact h p cap w1 ho' (((au base w).alloc hbase _).trans ((au base _).grown hg (by simp;omega) (fun k hk=>(hown.lt k hk).1))) hg
end
theorem SG {α:Type} (l:List α) (k:Nat) (h:k<l.length):l=l.take k++l[k]::l.drop (k+1):=by
 rw [← qcs h,qcO]
theorem Gu {α:Type} {K:Nat} {enc:α→List OC} (hk:∀x,(enc x).length=K) (l:List α) (k:Nat) (h:k<l.length) (y:α) (cur:List Value) (hs:l.length * K≤cur.length) (hc:cur.take (l.length * K)=(l.flatMap enc).map oV):
  (cur.take (k * K)++(enc y).map oV++cur.drop (k * K+K)).take (l.length * K)=((l.set k y).flatMap enc).map oV∧(cur.take (k * K)++(enc y).map oV++cur.drop (k * K+K)).length=cur.length:=by
 have e1:=SG l k h;have hset:l.set k y=l.take k++y::l.drop (k+1):=by rw [List.set_eq_take_append_cons_drop,aC h]
 have hkl:k * K+K≤l.length * K:=by
  have:=O7 K (show k+1≤l.length by omega);rw [Oj,TQ] at this;exact this
 have hA:((l.take k).flatMap enc).length=k * K:=by rw [zH enc _ hk,LV];congr 1;omega
 have hC:((l.drop (k+1)).flatMap enc).length=l.length * K - (k * K+K):=by
  rw [zH enc _ hk,List.length_drop,Nat.sub_mul,Oj,TQ]
 have hF:l.flatMap enc=(l.take k).flatMap enc++(enc l[k]++(l.drop (k+1)).flatMap enc):=by
  have e2:(l.take k++l[k]::l.drop (k+1)).flatMap enc=l.flatMap enc:=by rw [← e1]
  rw [← e2,qcY,Md]
 have za:cur=(l.flatMap enc).map oV++cur.drop (l.length * K):=by rw [← hc,qcO]
 rw [hset];rw [hF,xm,xm] at za;generalize cur.drop (l.length * K)=R at za
 have h1:cur.take (k * K)=((l.take k).flatMap enc).map oV:=by
  rw [za,ze,List.take_append_of_le_length (by rw [fD,hA];exact ah _),qj (by rw [fD,hA];exact ah _)]
 have h2:cur.drop (k * K+K)=((l.drop (k+1)).flatMap enc).map oV++R:=by
  rw [za,ze,ze,← List.drop_drop,List.drop_left' (by rw [fD,hA]),List.drop_left' (by rw [fD,hk])]
 rw [h1,h2];refine ⟨?_,?_⟩
 ·rw [← ze,List.take_left']
  ·simp
  ·simp only [fq,fD,hA,hC,hk];omega
 ·have:=congrArg List.length za;simp only [fq,fD,hA,hC,hk] at this ⊢;omega
section
variable {α:Type} {K:Nat} {enc:α→List OC} {w:World} {base:Nat} {e:TypeId} {l:List α}
variable {P:Program} {ops:Array Oper} {rest:List Oper} {o:Oper} {a:Act} {Q:Exit→Act→World→Prop}
theorem jA {ty:TypeId} (T:bU P ty K) (hk:∀x,(enc x).length=K) (x y:Operand) (hgd:o.guard=none) (ho:o.op= .store ty x y) (g n c k off:Nat) (hoff:off=k * K) (hx:a.eval x= .pointer (some ⟨g,off,none⟩))
  (z:α) {C:Array Value} (hC:C=((enc z).map oV).toArray) (hy:a.eval y= .agg C) (h:aT K enc w base e (.slice (some ⟨g,0,none⟩) n c) l) (hkl:k<l.length)
  (hK:∀w',aT K enc w' base e (.slice (some ⟨g,0,none⟩) n c) (l.set k z)→w.grownBy w' (some g)→wpList P ops Q rest (a.put o.dst undef) w'):wpList P ops Q (o::rest) a w:=by
 subst hC hoff;rcases h.2 with ⟨h0,_⟩ | ⟨g2,cap,cur,he,hbg,hc,hn,hm,hs,ht⟩
 ·cases h0
 ·injection he with he1 he2 GZ
  injection he1 with he1
  injection he1 with he1 _ _
  subst he1 he2 GZ
  have hsz:l.length * K≤cur.toList.length:=by
   rw [Io (xs:=cur),hs];exact O7 K hn
  obtain ⟨c1,c2⟩:=Gu hk l k hkl z cur.toList hsz ht
  have hkK:k * K+K≤l.length * K:=by
   have:=O7 K (show k+1≤l.length by omega);rw [Oj,TQ] at this;exact this
  have hrun:=run_storeCells_at P g (k * K) e ((enc z).map oV) 0 cur w hc (by rw [fD,hk];rw [Io (xs:=cur)] at hsz;omega) (fun v hv=>by obtain ⟨y,_,rfl⟩:=wS.1 hv;exact y.2);simp only [x8,fD,hk] at hrun
  have hr:(storeVar ty ⟨g,k * K,none⟩ (.agg ((enc z).map oV).toArray)).run P w= .ok () (w.setRow g (cur.toList.take (k * K)++(enc z).map oV++cur.toList.drop (k * K+K)).toArray):=by
   simp [storeVar,Value.cells,dR,T.size,hk];simpa using hrun
  refine RQ hgd fun K' hK'=> ?_;unfold Oper.wp execOp;simp only [ho,hx,hy,Instr.storeAt,Instr.sureAddr,dR,iB,fT,hr];refine hK' _ _ (hK _ ?_ (o6 w g _));unfold aT;rw [ru];refine ⟨by rw [fD,zH enc _ hk,ru], .inr ⟨g,c,_,rfl,hbg,setRow_heap w g _ _ e (0,0) hc,hn,hm,?_,c1⟩⟩;rw [AZ,c2,Io (xs:=cur),hs]
end
end
section
open Go.RowKit Mem
end
section
open Go Go.RowKit Mem
theorem Mem.lT {P:Program} {w:World} {src dst e:TypeId} (hs:P.underlying src=some (.slice e)) (he:P.underlying e=some (.int .u8)) (hd:P.underlying dst=some .string) {v:Value} {l:List UInt8} (h:Rd aV w v l):
  (convert src dst v).run P w= .ok (.string ⟨l.toArray⟩) w:=by
 rcases h with ⟨q,rfl,rfl⟩ | ⟨b,o,cap,rfl,_,ha,_⟩
 ·cases q with
  | none=>exact Lib.run_convert_nil_bytes w src dst e 0 hs he hd
  | some ad=>exact qcK w src dst e ad 0 [] hs he hd fun j hj=>by cases hj
 ·refine qcK w src dst e ⟨b,o,none⟩ cap l hs he hd fun j hj=> ?_;have h2:((⟨b,o,none⟩:Addr).add j)=⟨b,o+j,none⟩:=by unfold Addr.add;split<;>simp_all
  rw [h2,ha j hj,bM hj];rfl
end
end Go.Proofs.YtncnfncglacheaaGreatDoor
