/- Part of a proof. -/
import Derived.Test.YtngjelolnfgnbaaGreatDoorMEvB
import Derived.Orders
set_option linter.all false
set_option maxRecDepth 100000
set_option maxHeartbeats 64000000
namespace Go.Proofs.YtngjelolnfgnbaaGreatDoor
namespace Ev
section
open Go
variable {P:Program}
theorem oJ {ev ev':Operand→AV} {ps:Array (Nat×Operand)} (h:∀x∈(ps.toList.map (·.2)).toArray,ev x=ev' x):bV ev ps=bV ev' ps:=by
 unfold bV;apply Bd;intro p hp;rw [h p.2 (by simp;exact ⟨p.1,by simpa using hp⟩)]
theorem oG {ev ev':Operand→AV} {v:Option Operand} (h:∀x,v=some x→ev x=ev' x):fF ev v=fF ev' v∧uh ev v=uh ev' v:=by
 cases v with
 | none=>exact ⟨rfl,rfl⟩
 | some x=>unfold fF uh;simp only [h x rfl,and_self]
theorem vW {ev ev':Operand→AV} {op:Op} (h:∀x∈op.operands,ev x=ev' x):jT P ev op=jT P ev' op:=by
 cases op<;>simp only [Op.operands] at h<;>simp only [jT]
 case move x=>rw [h x (by simp)]
 case assign x=>rw [h x (by simp)]
 case pick c a b=>rw [h c (by simp),h a (by simp),h b (by simp)]
 case build t ps=>rw [oJ h]
 case nilCheck x=>rw [h x (by simp)]
 case binOp op t x y _=>rw [h x (by simp),h y (by simp)]
 case unOp op t x=>rw [h x (by simp)]
 case makeInterface t x=>rw [h x (by simp)]
 case makeFunc fn a c=>
  unfold iT;have h1:c.toList.map ev=c.toList.map ev':=Bd fun x hx=>h x (by simp;exact .inr (by simpa using hx));have h2:a.toList.map ev=a.toList.map ev':=Bd fun x hx=>h x (by simp;exact .inl (by simpa using hx));rw [h1,h2]
 case slice t x lo hi mx=>
  have h1:=h x (by simp);have h2:=oG (ev:=ev) (ev':=ev') (v:=lo) (fun y hy=>h y (by subst hy;simp));have h3:=oG (ev:=ev) (ev':=ev') (v:=hi) (fun y hy=>h y (by subst hy;simp));cases mx with
  | none=>simp only;unfold nM;rw [h1,h2.1,h2.2,h3.1,h3.2]
  | some _=>rfl
 case fieldAddr t x f=>rw [h x (by simp)]
 case field t x f=>rw [h x (by simp)]
 case indexAddr t x i=>rw [h x (by simp),h i (by simp)]
 case index t x i=>rw [h x (by simp),h i (by simp)]
 case typeAssert x t u ok=>rw [h x (by simp)]
 case extract x i=>rw [h x (by simp)]
theorem wZ {ev ev':Operand→AV} {op:Op} (h:∀x∈op.operands,ev x=ev' x) (lim:Nat) (hp:H) (nx:Nat) (ty:TypeId):fO P lim ev hp nx ty op=fO P lim ev' hp nx ty op:=by
 cases op<;>simp only [Op.operands] at h<;>simp only [fO]
 case box t x=>rw [h x (by simp)]
 case buildSlice t n ps=>rw [oJ h]
 case load t x=>rw [h x (by simp)]
 case store t x y=>rw [h x (by simp),h y (by simp)]
 case convert s d x=>rw [h x (by simp)]
 case makeSlice t x y=>rw [h x (by simp),h y (by simp)]
 case makeMap t r=>
  cases r with
  | none=>rfl
  | some x=>simp only [jb];rw [h x (by simp)]
 case lookup t m k ok=>rw [h m (by simp),h k (by simp)]
 case mapUpdate t m k x=>rw [h m (by simp),h k (by simp),h x (by simp)]
 case insert t m k x=>rw [h m (by simp),h k (by simp),h x (by simp)]
 case call c=>
  obtain ⟨callee,args,at'⟩:=c;cases callee with
  | builtin b=>
   have:args.toList.map ev=args.toList.map ev':=Bd fun x hx=>h x (by simp [Call.operands];simpa using hx);simp only [this]
  | _=>rfl
theorem vZ {ev ev':Operand→AV} {op:Op} (h:∀x∈op.operands,ev x=ev' x):dX ev op=dX ev' op:=by
 have gen:∀l:List Operand,(∀x∈l,ev x=ev' x)→(l.flatMap fun x=>bF (ev x))=l.flatMap fun x=>bF (ev' x):=fun l hl=>by
  induction l with
  | nil=>rfl
  | cons x l ih=>rw [FC,FC,hl x uF,ih fun y hy=>hl y (zw _ hy)]
 have dflt:(op.operands.toList.flatMap fun x=>bF (ev x),([]:List Nat))=(op.operands.toList.flatMap fun x=>bF (ev' x),[]):=by rw [gen _ fun x hx=>h x (by simpa using hx)]
 cases op
 case load t x=>simp only [dX];rw [h x (by simp [Op.operands])]
 case store t x y=>simp only [dX];rw [h x (by simp [Op.operands])]
 case convert s d x=>simp only [dX];rw [h x (by simp [Op.operands])]
 case mapUpdate t m k x=>simp only [dX];rw [h m (by simp [Op.operands])]
 case insert t m k x=>simp only [dX];rw [h m (by simp [Op.operands])]
 case call c=>
  obtain ⟨callee,args,at'⟩:=c;cases callee with
  | builtin b=>
   have ha:∀x∈args.toList,ev x=ev' x:=fun x hx=>h x (by simp [Op.operands,Call.operands];simpa using hx);cases b
   case append=>
    simp only [dX];rw [gen _ ha];cases hl:args.toList with
    | nil=>rfl
    | cons a l=>simp only;rw [ha a (by rw [hl];exact uF)]
   all_goals exact dflt
  | _=>exact dflt
 all_goals exact dflt
theorem Bz {ev:Operand→AV} {op:Op}:∀k∈(dX ev op).2,k∈(dX ev op).1:=by
 intro k hk;cases op
 case store t x y=>exact hk
 case convert s d x=>exact hk
 case mapUpdate t m k x=>exact hk
 case insert t m k x=>exact hk
 case call c=>
  obtain ⟨callee,args,at'⟩:=c;cases callee with
  | builtin b=>
   cases b
   case append=>
    simp only [dX] at hk ⊢;cases hl:args.toList with
    | nil=>rw [hl] at hk;cases hk
    | cons a l=>rw [hl] at hk;rw [FC];exact List.mem_append_left _ hk
   all_goals cases hk
  | _=>cases hk
 all_goals cases hk
theorem wO {f:F} {ops:Array Oper} {t:T AV} {tm:Array Value} {o:Oper} {b:Bool} (h:∀j w d,o.guard=some (j,w)→(ops[j]?).bind (·.dst)=some d→VR f (bP t d) (tm.getD d undef)) (hw:bI ops t o=some b):Region.wanted o (yielded ops tm)=b:=by
 cases hg:o.guard with
 | none=>
  unfold bI at hw;unfold Region.wanted;rw [hg] at hw ⊢;simpa using hw
 | some g=>
  obtain ⟨j,want⟩:=g;cases hd:(ops[j]?).bind (·.dst) with
  | none=>
   unfold bI at hw;rw [hg] at hw;simp only [hd] at hw;cases hw
  | some d=>
   have hk:=h j want d hg hd;unfold bI at hw;unfold Region.wanted;rw [hg] at hw ⊢;simp only [hd] at hw ⊢;unfold yielded;rw [hd];unfold bP at hk;simp only [rT];split at hw
   ·rename_i x hx;simp only [ah] at hw;rw [hx] at hk;simp only [nO] at hk;generalize hv:tm.getD d undef=u at hk;cases hk
    have:tm[d]?=some (.bool x):=by
     rw [uB] at hv;cases he:tm[d]? with
     | none=>rw [he] at hv;cases hv
     | some y=>rw [he] at hv;simp only [nO] at hv;rw [hv]
    rw [this];simpa using hw
   ·rename_i x hx;simp only [ah] at hw;subst hw;rw [hx] at hk;simp only [nO] at hk;generalize hv:tm.getD d undef=u at hk;cases hk;cases he:tm[d]? with
    | none=>rfl
    | some y=>
     rw [uB,he] at hv;simp only [nO] at hv;subst hv;rfl
   ·cases hw
structure Tr (P:Program) (lim:Nat) (call:ax) (all:Array Oper) (sz i0:Nat) (pl:List (Oper×Nat×Bool)) (T:Nat→T AV) (C:Nat→H) (A:Nat→List AE) (N:Nat→Nat) (V:Nat→AV) (X:Nat→Bool):Prop where
 step:∀i o an tot,pl[i]?=some (o,an,tot)→gL (T (i0+i)) sz o.dst (V (i0+i))=some (T (i0+i+1))∧
  ((X (i0+i)=false∧bI all (T (i0+i)) o=some false∧V (i0+i)=gF∧C (i0+i+1)=C (i0+i)∧A (i0+i+1)=A (i0+i)∧N (i0+i+1)=N (i0+i))∨
  (X (i0+i)=true∧bI all (T (i0+i)) o=some true∧jh P lim call (T (i0+i)) (C (i0+i)) (A (i0+i)) (N (i0+i)) (i0+i) o an tot=some (V (i0+i),C (i0+i+1),N (i0+i+1),A (i0+i+1))))
theorem trace {lim:Nat} {call:ax} {all:Array Oper} {sz:Nat}:∀(pl:List (Oper×Nat×Bool)) (i0:Nat) (t:T AV) (h:H) (Al:List AE) (nx:Nat) (t':T AV) (h':H) (nx':Nat),fD P lim call all sz pl i0 t h Al nx=some (t',h',nx')→
  ∃T C A N V X,Tr P lim call all sz i0 pl T C A N V X∧T i0=t∧C i0=h∧A i0=Al∧N i0=nx∧T (i0+pl.length)=t'∧C (i0+pl.length)=h'∧N (i0+pl.length)=nx':=by
 intro pl
 induction pl with
 | nil=>
  intro i0 t h Al nx t' h' nx' he;simp only [fD,ah,ay] at he;obtain ⟨rfl,rfl,rfl⟩:=he;exact ⟨fun _=>t,fun _=>h,fun _=>Al,fun _=>nx,fun _=>gF,fun _=>false,⟨fun i o an tot hi=>by simp at hi⟩,rfl,rfl,rfl,rfl,rfl,rfl,rfl⟩
 | cons p pl ih=>
  intro i0 t h Al nx t' h' nx' he;obtain ⟨o,an,tot⟩:=p
  have fin:∀(x:Bool) (v:AV) (t2:T AV) (h2:H) (A2:List AE) (n2:Nat),gL t sz o.dst v=some t2→((x=false∧bI all t o=some false∧v=gF∧h2=h∧A2=Al∧n2=nx)∨(x=true∧bI all t o=some true∧jh P lim call t h Al nx i0 o an tot=some (v,h2,n2,A2)))→fD P lim call all sz pl (i0+1) t2 h2 A2 n2=some (t',h',nx')→∃T C A N V X,Tr P lim call all sz i0 ((o,an,tot)::pl) T C A N V X∧T i0=t∧C i0=h∧A i0=Al∧N i0=nx∧T (i0+((o,an,tot)::pl).length)=t'∧C (i0+((o,an,tot)::pl).length)=h'∧N (i0+((o,an,tot)::pl).length)=nx':=by
   intro x v t2 h2 A2 n2 hp hx he2;obtain ⟨T,C,A,N,V,X,⟨hs⟩,e1,e2,e3,e4,e5,e6,e7⟩:=ih _ _ _ _ _ _ _ _ he2;refine ⟨fun j=>if j=i0 then t else T j,fun j=>if j=i0 then h else C j,fun j=>if j=i0 then Al else A j,fun j=>if j=i0 then nx else N j,fun j=>if j=i0 then v else V j,fun j=>if j=i0 then x else X j,⟨fun i o' Kh tot' hi=> ?_⟩,aF rfl,aF rfl,aF rfl,aF rfl,?_,?_,?_⟩
   ·cases i with
    | zero=>
     simp only [C9,ah,ay] at hi;obtain ⟨rfl,rfl,rfl⟩:=hi;simp only [Bu,jX,show i0+1≠i0 from by omega,mo];rw [e1,e2,e3,e4];exact ⟨hp,hx⟩
    | succ i=>
     have h1:=hs i o' Kh tot' (by simpa using hi);have n1:i0+(i+1)≠i0:=by omega
     have n2:i0+(i+1)+1≠i0:=by omega
     simp only [n1,n2,mo];rw [show i0+(i+1)=i0+1+i from by omega];exact h1
   ·simp only [jM];rw [av (by omega),← e5];congr 1;omega
   ·simp only [jM];rw [av (by omega),← e6];congr 1;omega
   ·simp only [jM];rw [av (by omega),← e7];congr 1;omega
  unfold fD at he;split at he
  ·cases he
  ·rename_i hw;split at he
   ·rename_i t2 hp;exact fin false gF t2 h Al nx hp (.inl ⟨rfl,hw,rfl,rfl,rfl,rfl⟩) he
   ·cases he
  ·rename_i hw;split at he
   ·cases he
   ·rename_i v h2 n2 A2 hs;split at he
    ·rename_i t2 hp;exact fin true v t2 h2 A2 n2 hp (.inr ⟨rfl,hw,hs⟩) he
    ·cases he
end
section
open Go
variable {P:Program}
structure Rec where
 FF:Nat→Prop
 DD:Nat→Prop
 hin:H
 hout:H
 W:Nat→Prop
def EI (A:List AE) (n:Nat):Prop:=∀a∈A,(a.top=0→∀k∈a.rd,k<n)∧∀k∈a.wr,k<n
structure y8 (P:Program) (lim:Nat) (t:T AV) (C:H) (A:List AE) (n i:Nat) (o:Oper) (an:Nat) (tot:Bool) (v:AV) (C':H) (n':Nat) (A':List AE) (r:Rec):Prop where
 r1:∀k ob,r.hin.get k=some ob→C.get k=some ob∧r.FF k
 r2:∀k,(r.DD k→C'.get k=r.hout.get k)∧(¬r.DD k→C'.get k=C.get k)
 r4:∀k,r.W k→r.DD k∧lim≤k∧(r.hin.get k).isSome=true
 r5:∀k,n≤k→k<n'→r.DD k
 r6:∀k,r.DD k→(n≤k∧k<n')∨r.FF k
 Jy:(A'=A∧(∀k,¬r.DD k)∧∀k,¬r.FF k)∨(∃a,A'=a::A∧a.i=i∧(∀k,r.DD k→k∈a.wr)∧∀k,r.FF k→a.reads k=true∧k<n)∨(A'=A∧tot=true)
 conf:∀a∈A,an.testBit a.i=false→(∀k∈a.wr,¬r.FF k)∧∀k,r.DD k→¬n≤k→a.reads k=false
 hb:tC o.op=false→(∀k,¬r.DD k)∧∀k,¬r.FF k
 ei:EI A' n'
 up:n≤n'
 r3:∀(f:F) (w:World) (tm:Array Value),HR f r.hin.get w→(∀x∈o.op.operands,VR f (aG t x) (aM tm x))→(∀k,n≤k→k<n'→f k=none)→
  ∀(b:Frame) (k:List Item) (cs:List Frame) (ds:List Deferred) (ops:Array Oper) (j:Nat) (rest:List Nat),ops[j]?=some o→Region.wanted o (yielded ops tm)=true→
   ∃f' w' u,Post f r.W r.hin n n' w f' r.hout w'∧VR f' v u∧Steps P (lone (fr b tm ds (.inRegion ops (j::rest)::k)) cs w) (lone (fr b (eD tm o.dst u) ds (.inRegion ops rest::k)) cs w')
theorem contains_iff {l:List Nat} {k:Nat}:l.contains k=true↔k∈l:=by simp
open Classical in
theorem xy {f:F} {t:T AV} {tm:Array Value} {op:Op} (h:∀x∈op.operands,VR f (aG t x) (aM tm x)):∃ev':Operand→AV,(∀x∈op.operands,aG t x=ev' x)∧∀x,VR f (ev' x) (aM tm x):=
 ⟨fun x=>if x∈op.operands then aG t x else .lit (aM tm x),fun x hx=>by simp [hx],fun x=>by
  by_cases hx:x∈op.operands
  ·simp only [hx,jX];exact h x hx
  ·simp only [hx,mo];exact .lit _⟩
theorem CY (hgo:kF P=true) {lim:Nat} {call:ax} (hc:iU P call) (mc:GC call) {t:T AV} {C:H} {A:List AE} {n i:Nat} {o:Oper} {an:Nat} {tot:Bool} {v:AV} {C':H} {n':Nat} {A':List AE} (hlim:lim≤n) (hbd:BD C n) (uO:EI A n)
  (hs:jh P lim call t C A n i o an tot=some (v,C',n',A')):∃r,y8 P lim t C A n i o an tot v C' n' A' r:=by
 have hup:=pE mc hs;unfold jh at hs;split at hs
 ·rename_i hbf;split at hs
  ·rename_i v' hp;simp only [ah,ay] at hs;obtain ⟨rfl,rfl,rfl,rfl⟩:=hs;refine ⟨⟨fun _=>False,fun _=>False, .e, .e,fun _=>False⟩,fun k ob h=>(by cases h),fun k=>⟨fun h=>h.elim,fun _=>rfl⟩,fun k h=>h.elim,fun k a b=>(by omega),fun k h=>h.elim, .inl ⟨rfl,fun _ h=>h,fun _ h=>h⟩,fun a _ _=>⟨fun _ _ h=>h,fun _ h=>h.elim⟩,fun _=>⟨fun _ h=>h,fun _ h=>h⟩,uO,aj _,fun f w tm H0 hv hn=> ?_⟩;obtain ⟨ev',e1,e2⟩:=xy hv;rw [vW e1] at hp;obtain ⟨u,h1,h2⟩:=nY (w:=w) e2 hp;exact fun b k cs ds ops j rest ho hw=>⟨f,w,u,Post.same H0,h2, .one (lG ho hw (kG hp) h1)⟩
  ·cases hs
 ·rename_i hbt;split at hs
  ·
   rename_i hco;unfold kY at hs;split at hs
   ·rename_i v' h' n2 hh;split at hs
    ·rename_i xQ;simp only [ah,ay] at hs;obtain ⟨rfl,rfl,rfl,rfl⟩:=hs;rw [aX,oL,oL] at xQ;obtain ⟨hlt,hcf⟩:=xQ;generalize hfw:dX (aG t) o.op=fw at hh hlt hcf;have hsub:∀k∈fw.2,k∈fw.1:=by rw [← hfw];exact Bz
     have hmem:∀k,k∈fw.2++fu (n2 - n) n↔k∈fw.2∨(n≤k∧k<n2):=fun k=>by rw [EE,iQ];constructor<;>rintro (h | h)<;>first | exact .inl h | exact .inr (by omega)
     have hlt':∀k∈fw.1,k<n:=fun k hk=>bU.1 (hlt k hk);refine ⟨⟨fun k=>k∈fw.1,fun k=>k∈fw.2∨(n≤k∧k<n2),bC C .e fw.1,h',LW lim (bC C .e fw.1) fw.2⟩,fun k ob h=> ?_,fun k=>⟨fun h=> ?_,fun h=> ?_⟩,fun k h=>⟨.inl h.2.1,h.1,h.2.2⟩,fun k a b=> .inr ⟨a,b⟩,fun k h=>h.elim (fun h=> .inr (hsub k h)) .inl, .inr (.inl ⟨_,rfl,rfl,fun k h=>(hmem k).2 h,fun k h=>⟨?_,hlt' k h⟩⟩),fun a ha hna=>⟨fun k hk hf=> ?_,fun k hd hnn=> ?_⟩,fun e=>(by rw [e] at hbt;cases hbt),fun a ha=> ?_,hup,fun f w tm H0 hv hn=> ?_⟩
     ·rw [aK] at h;split at h
      ·exact ⟨h,by assumption⟩
      ·cases h
     ·rw [aK,aF ((hmem k).2 h)]
     ·rw [aK,av (fun e=>h ((hmem k).1 e))]
     ·simp only [AE.reads];exact contains_iff.2 h
     ·have:=hcf a ha;rw [hna,zG,aX] at this;have h1:=this.1;rw [Ba,zT] at h1;exact h1 k hf (contains_iff.2 hk)
     ·have:=hcf a ha;rw [hna,zG,aX] at this;have h2:=this.2;rw [Ba,zT] at h2;rcases hd with hd | hd
      ·simpa using h2 k hd
      ·exact absurd hd.1 hnn
     ·rcases uW.1 ha with rfl | ha
      ·refine ⟨fun _ k hk=>bY (hlt' k hk) hup,fun k hk=> ?_⟩;rcases (hmem k).1 hk with h | h
       ·exact bY (hlt' k (hsub k h)) hup
       ·exact h.2
      ·exact ⟨fun e k hk=>bY ((uO a ha).1 e k hk) hup,fun k hk=>bY ((uO a ha).2 k hk) hup⟩
     ·obtain ⟨ev',e1,e2⟩:=xy hv;rw [wZ e1] at hh;rw [vZ e1] at hfw;obtain ⟨f',r,w',u,h1,h2,h3,h4⟩:=oH H0 e2 hh hn;rw [hfw] at h2;refine fun b k cs ds ops j rest ho hw=>⟨f',w',u,h2,h4,?_⟩;rcases h3 with rfl | ⟨rfl,rfl⟩
      ·exact .one (lG ho hw (fC hh) h1)
      ·exact .one (qJ ho hw (fC hh) h1)
    ·cases hs
   ·cases hs
  ·
   rename_i fo args hco;obtain ⟨ar,at',hop,rfl⟩:=nG hco;have hdf:eO o.op=false:=by rw [hop];rfl
   split at hs
   ·rename_i g args' hca
    have snd:∀(lim':Nat) (hin h':H) (n2:Nat) (v:AV),lim'≤n→BD hin n→call lim' g args' hin n=some (false,v,h',n2)→∀(f:F) (w:World) (tm:Array Value),HR f hin.get w→(∀x∈o.op.operands,VR f (aG t x) (aM tm x))→(∀k,n≤k→k<n2→f k=none)→
      ∀(b:Frame) (k:List Item) (cs:List Frame) (ds:List Deferred) (ops:Array Oper) (j:Nat) (rest:List Nat),ops[j]?=some o→Region.wanted o (yielded ops tm)=true→
      ∃f' w' u,aP f lim' hin n n2 w f' h' w'∧VR f' v u∧Steps P (lone (fr b tm ds (.inRegion ops (j::rest)::k)) cs w) (lone (fr b (eD tm o.dst u) ds (.inRegion ops rest::k)) cs w'):=by
     intro lim' hin h' n2 v hl hb hcall f w tm H0 hv hn;have JA:=hv fo (by rw [hop];simp [Op.operands,Call.operands])
     have IK:au f (ar.toList.map (aG t)) (ar.toList.map (aM tm)):=by
      have:∀l:List Operand,(∀x∈l,VR f (aG t x) (aM tm x))→au f (l.map (aG t)) (l.map (aM tm)):=fun l=>by
       induction l with
       | nil=>exact fun _=> .nil
       | cons x l ih=>exact fun h=> .cons (h x uF) (ih fun y hy=>h y (zw _ hy))
      exact this _ fun x hx=>hv x (by rw [hop];simp [Op.operands,Call.operands];exact .inr (by simpa using hx))
     obtain ⟨first,vs,JY,hcap⟩:=jY JA IK hca;obtain ⟨⟨fn,hfn,yw⟩,r⟩:=hc _ _ _ _ _ _ _ _ _ hcall hl f w _ H0 hb hcap hn;intro b k cs ds ops j rest ho hw;obtain ⟨f',w',u,fr',p,q,s1,s2,s3⟩:=r (fr b tm ds (.inRegion ops (j::rest)::k)::cs);refine ⟨f',w',u,p,q,?_⟩
     have hex:(execOp (aM tm) o).run P w= .ok (.enter g (first++ar.toList.map (aM tm)++vs).toArray) w:=by
      have:=lH hgo hfn yw ((first++ar.toList.map (aM tm)++vs).toArray) w;simp only [execOp,hop,resolve,JY,Deferred.ofValue,invoke,bK,dG,bR];rw [← this];congr 2;apply rQ;simp
     have:=EC (c:=fr b tm ds (.inRegion ops (j::rest)::k)) (cs:=cs) s3;rw [dh ho] at this;exact .head (o9 ho hw hdf hex) (s1.trans (.one this))
    unfold lK at hs;split at hs
    ·rename_i xQ;rw [aX,oL] at xQ;obtain ⟨htot,htop⟩:=xQ;dsimp only at hs;generalize hout:(A.flatMap fun a=>match an.testBit a.i with | true=>[] | false=>a.rd++a.wr)=out at hs
     have hmo:∀a∈A,an.testBit a.i=false→∀k,k∈a.rd∨k∈a.wr→k∈out:=fun a ha hna k hk=>by
      rw [← hout,FI];exact ⟨a,ha,by rw [hna];exact EE.2 hk⟩
     have htz:∀a∈A,an.testBit a.i=false→a.top=0:=fun a ha hna=>by
      have:=htop a ha;rw [hna,zG] at this;exact bQ this
     have hol:∀k∈out,k<n:=fun k hk=>by
      rw [← hout,FI] at hk;obtain ⟨a,ha,hk⟩:=hk;cases hna:an.testBit a.i with
      | true=>rw [hna] at hk;cases hk
      | false=>
       rw [hna] at hk;rcases EE.1 hk with h | h
       ·exact (uO a ha).1 (htz a ha hna) k h
       ·exact (uO a ha).2 k h
     split at hs
     ·rename_i v' h' n2 hcall;simp only [ah,ay] at hs;obtain ⟨rfl,rfl,rfl,rfl⟩:=hs
      have Au:BD (bC .e C out) n:=fun k hk=>by
       rw [aK] at hk;split at hk
       ·cases hk
       ·exact hbd k hk
      refine ⟨⟨fun k=>k∉out,fun k=>k∉out,bC .e C out,h',fun k=>lim≤k∧((bC .e C out).get k).isSome=true⟩,fun k ob h=> ?_,fun k=>⟨fun h=> ?_,fun h=> ?_⟩,fun k h=>⟨fun e=> ?_,h.1,h.2⟩,fun k a b e=> ?_,fun k h=> .inr h, .inr (.inr ⟨rfl,htot⟩),fun a ha hna=>⟨fun k hk hf=>hf (hmo a ha hna k (.inr hk)),fun k hd _=> ?_⟩,fun e=>(by rw [e] at hbt;cases hbt),fun a ha=>⟨fun e k hk=>bY ((uO a ha).1 e k hk) hup,fun k hk=>bY ((uO a ha).2 k hk) hup⟩,hup,snd lim _ _ _ _ hlim Au hcall⟩
      ·rw [aK] at h;split at h
       ·cases h
       ·exact ⟨h,by assumption⟩
      ·rw [aK,av h]
      ·rw [aK,aF (Classical.not_not.1 h)]
      ·have:=h.2;rw [aK,aF e] at this;cases this
      ·have:=hol k e;omega
      ·cases hr:a.reads k with
       | false=>rfl
       | true=>
        unfold AE.reads at hr;rw [htz a ha hna] at hr;exact absurd (hmo a ha hna k (.inl (contains_iff.1 hr))) hd
     ·cases hs
    ·split at hs
     ·rename_i v' h' n2 hcall;simp only [ah,ay] at hs;obtain ⟨rfl,rfl,rfl,rfl⟩:=hs;generalize hfree:nI an A=out at hcall ⊢
      have hmo:∀a∈A,an.testBit a.i=false→∀k∈a.wr,k∈out:=fun a ha hna k hk=>by
       rw [← hfree,nI,FI];exact ⟨a,ha,by rw [hna];exact hk⟩
      have hget:∀k ob,(bC .e C out).get k=some ob→C.get k=some ob∧k<n∧k∉out:=fun k ob h=>by
       rw [aK] at h;split at h
       ·cases h
       ·exact ⟨h,hbd k (by rw [h];rfl),by assumption⟩
      have Au:BD (bC .e C out) n:=fun k hk=>by
       cases hg:(bC .e C out).get k with
       | none=>rw [hg] at hk;cases hk
       | some ob=>exact (hget k ob hg).2.1
      have hrg:∀k,k∈fu (n2 - n) n↔n≤k∧k<n2:=fun k=>by rw [iQ];omega
      refine ⟨⟨fun k=>k<n∧k∉out,fun k=>n≤k∧k<n2,bC .e C out,h',fun k=>n≤k∧((bC .e C out).get k).isSome=true⟩,fun k ob h=>⟨(hget k ob h).1,(hget k ob h).2⟩,fun k=>⟨fun h=> ?_,fun h=> ?_⟩,fun k h=> ?_,fun k a b=>⟨a,b⟩,fun k h=> .inl h, .inr (.inl ⟨_,rfl,rfl,fun k h=>(hrg k).2 h,fun k h=>⟨?_,h.1⟩⟩),fun a ha hna=>⟨fun k hk hf=>hf.2 (hmo a ha hna k hk),fun k hd hnn=>absurd hd.1 hnn⟩,fun e=>(by rw [e] at hbt;cases hbt),fun a ha=> ?_,hup,snd n _ _ _ _ (aj _) Au hcall⟩
      ·rw [aK,aF ((hrg k).2 h)]
      ·rw [aK,av (fun e=>h ((hrg k).1 e))]
      ·have:=Au k h.2;omega
      ·unfold AE.reads
       have hz:Nat.beq n 0=false:=by
        cases hb:Nat.beq n 0 with
        | false=>rfl
        | true=>have:=bQ hb;omega
       simp only [hz,aX,bU,h.1,true_and];simpa using h.2
      ·rcases uW.1 ha with rfl | ha
       ·refine ⟨fun e k hk=> ?_,fun k hk=>((hrg k).1 hk).2⟩;simp only at e hk;rw [← hfree,nI,FI] at hk;obtain ⟨a,ha,hk⟩:=hk;cases hna:an.testBit a.i with
        | true=>rw [hna] at hk;cases hk
        | false=>rw [hna] at hk;exact bY ((uO a ha).2 k hk) hup
       ·exact ⟨fun e k hk=>bY ((uO a ha).1 e k hk) hup,fun k hk=>bY ((uO a ha).2 k hk) hup⟩
     ·cases hs
   ·cases hs
end
section
open Go
variable {P:Program}
structure Ctx (P:Program) (lim:Nat) (all:Array Oper) (sz n:Nat) (T:Nat→T AV) (C:Nat→H) (A:Nat→List AE) (N:Nat→Nat) (V:Nat→AV) (X:Nat→Bool) (an:Nat→Nat) (tot:Nat→Bool) (R:Nat→Rec):Prop where
 size:all.size=n
 put:∀(i:Nat) (o:Oper),all[i]?=some o→gL (T i) sz o.dst (V i)=some (T (i+1))
 st:∀(i:Nat) (o:Oper),all[i]?=some o→(X i=false∧bI all (T i) o=some false∧V i=gF∧C (i+1)=C i∧N (i+1)=N i)∨
  (X i=true∧bI all (T i) o=some true∧y8 P lim (T i) (C i) (A i) (N i) i o (an i) (tot i) (V i) (C (i+1)) (N (i+1)) (A (i+1)) (R i))
 pair:∀i j,j<i→i<n→X i=true→X j=true→(an i).testBit j=false→(∀k,(R j).DD k→¬(R i).FF k)∧∀k,(R i).DD k→¬(R j).FF k
 lv:∀i,i<n→Live (C i) (C (i+1)) (N i) (N (i+1))
 up:∀i,i<n→N i≤N (i+1)
 FU:∀i j,i<n→(an i).testBit j=true→j<i
 uses:∀(i:Nat) (o:Oper) (t:Nat),all[i]?=some o→t∈nu all.toList o→∀(j:Nat) (p:Oper),all[j]?=some p→p.dst=some t→j=i∨(an i).testBit j=true∨(an j).testBit i=true
 JE:∀(i j:Nat) (o p:Oper) (d:Nat),all[i]?=some o→all[j]?=some p→o.dst=some d→p.dst=some d→i=j
open Classical in
noncomputable def bJ (C:Nat→H) (X:Nat→Bool) (R:Nat→Rec) (S:Nat→Prop):Nat→Nat→Option OB
 | 0,k=>(C 0).get k
 | m+1,k=>if S m∧X m=true∧(R m).DD k then (C (m+1)).get k else bJ C X R S m k
open Classical in
noncomputable def fA (all:Array Oper) (T:Nat→T AV) (V:Nat→AV) (S:Nat→Prop):Nat→Nat→AV
 | 0,k=>bP (T 0) k
 | m+1,k=>if S m∧∃o,all[m]?=some o∧o.dst=some k then V m else fA all T V S m k
section
variable {lim:Nat} {all:Array Oper} {sz n:Nat} {T:Nat→T AV} {C:Nat→H} {A:Nat→List AE} {N:Nat→Nat} {V:Nat→AV} {X:Nat→Bool} {an:Nat→Nat} {tot:Nat→Bool} {R:Nat→Rec}
theorem Ctx.op (c:Ctx P lim all sz n T C A N V X an tot R) {i:Nat} (h:i<n):∃o,all[i]?=some o:=⟨all[i]'(by rw [c.size];exact h),by simp [c.size,h]⟩
theorem Ctx.keep (c:Ctx P lim all sz n T C A N V X an tot R) {i:Nat} (h:i<n) {k:Nat} (hk:¬(X i=true∧(R i).DD k)):(C (i+1)).get k=(C i).get k:=by
 obtain ⟨o,ho⟩:=c.op h;rcases c.st i o ho with ⟨h1,_,_,h2,_⟩ | ⟨h1,_,h2⟩
 ·rw [h2]
 ·exact (h2.r2 k).2 fun e=>hk ⟨h1,e⟩
theorem jw (c:Ctx P lim all sz n T C A N V X an tot R) {S:Nat→Prop} {k:Nat}:∀(m i:Nat),m≤n→i≤m→(∀j,j<m→((S j∧X j=true∧(R j).DD k)↔(j<i∧X j=true∧(R j).DD k)))→bJ C X R S m k=(C i).get k
 | 0,i,_,hi,_=>by rw [show i=0 by omega];rfl
 | m+1,i,hm,hi,hq=>by
  rw [bJ];have q:=hq m (qQ m);by_cases him:i=m+1
  ·subst him;by_cases h:S m∧X m=true∧(R m).DD k
   ·rw [aF h]
   ·rw [av h,jw c m m (by omega) (aj _) (fun j hj=>by rw [hq j (by omega)];constructor<;>rintro ⟨a,b⟩<;>exact ⟨by omega,b⟩)];exact (c.keep (by omega) fun e=>h (q.2 ⟨by omega,e⟩)).symm
  ·rw [av fun h=>by have:=(q.1 h).1;omega];exact jw c m i (by omega) (by omega) fun j hj=>hq j (by omega)
theorem qm {S:Nat→Prop} {i k:Nat} (hx:X i=true):∀(m:Nat),(∀j,i<j→j<m→S j→X j=true→(R i).DD k→¬(R j).DD k)→¬S i→
  bJ C X R (fun j=>j=i∨S j) m k=(open Classical in if i<m∧(R i).DD k then (C (i+1)).get k else bJ C X R S m k)
 | 0,_,_=>by rw [av (by omega)];rfl
 | m+1,hj,hi=>by
  have ih:=qm hx m (fun j a b=>hj j a (by omega)) hi;rw [bJ,bJ];by_cases hm:m=i
  ·subst hm;by_cases hd:(R m).DD k
   ·rw [aF ⟨.inl rfl,hx,hd⟩,aF ⟨qQ m,hd⟩]
   ·rw [av fun h=>hd h.2.2,av fun h=>hd h.2,av fun h=>hd h.2.2,ih,av (by omega)]
  ·by_cases h:S m∧X m=true∧(R m).DD k
   ·rw [aF ⟨.inr h.1,h.2⟩,av,aF h];rintro ⟨a,b⟩;exact hj m (by omega) (qQ m) h.1 h.2.1 b h.2.2
   ·rw [av (fun e=>h ⟨e.1.resolve_left hm,e.2⟩),av h,ih];by_cases hd:i<m∧(R i).DD k
    ·rw [aF hd,aF ⟨by omega,hd.2⟩]
    ·rw [av hd,av fun e=>hd ⟨by omega,e.2⟩]
theorem qd {S:Nat→Prop} {i k:Nat} (hx:X i=false):∀m,bJ C X R (fun j=>j=i∨S j) m k=bJ C X R S m k
 | 0=>rfl
 | m+1=>by
  rw [bJ,bJ,qd hx m];by_cases hm:m=i
  ·subst hm;rw [av (fun h=>by rw [hx] at h;cases h.2.1),av (fun h=>by rw [hx] at h;cases h.2.1)]
  ·by_cases h:S m∧X m=true∧(R m).DD k
   ·rw [aF ⟨.inr h.1,h.2⟩,aF h]
   ·rw [av (fun e=>h ⟨e.1.resolve_left hm,e.2⟩),av h]
theorem BL {t t':Ev.T AV} {sz:Nat} {d:Option Tmp} {v:AV} (h:gL t sz d v=some t') (k:Nat):bP t' k=if d=some k then v else bP t k:=by
 unfold gL at h;cases d with
 | none=>simp only [ah] at h;subst h;simp
 | some d=>
  simp only at h;split at h
  ·simp only [ah] at h;subst h;rw [oW];by_cases e:k=d
   ·rw [aF e,aF (by rw [e])]
   ·rw [av e,av (fun e2=>e (zq e2).symm)]
  ·cases h
theorem iC (c:Ctx P lim all sz n T C A N V X an tot R) {S:Nat→Prop} {k:Nat}:∀(m i:Nat),m≤n→i≤m→(∀(j:Nat) (o:Oper),j<m→all[j]?=some o→o.dst=some k→(S j↔j<i))→fA all T V S m k=bP (T i) k
 | 0,i,_,hi,_=>by rw [show i=0 by omega];rfl
 | m+1,i,hm,hi,hq=>by
  rw [fA];obtain ⟨o,ho⟩:=c.op (show m<n by omega);have hp:=BL (c.put m o ho) k;by_cases him:i=m+1
  ·subst him;rw [hp];by_cases hd:o.dst=some k
   ·rw [aF hd,aF ⟨(hq m o (qQ m) ho hd).2 (by omega),o,ho,hd⟩]
   ·rw [av hd,av,iC c m m (by omega) (aj _) (fun j p hj KC G9=>by rw [hq j p (by omega) KC G9];omega)];rintro ⟨_,p,hp1,hp2⟩;rw [ho] at hp1;cases hp1;exact hd hp2
  ·rw [av,iC c m i (by omega) (by omega) (fun j p hj=>hq j p (by omega))];rintro ⟨h1,p,hp1,hp2⟩;have:=(hq m p (qQ m) hp1 hp2).1 h1;omega
theorem nC {S:Nat→Prop} {i k:Nat} (hds:∀(j:Nat) (p o:Oper),all[j]?=some p→all[i]?=some o→o.dst=some k→p.dst=some k→j=i):∀m,fA all T V (fun j=>j=i∨S j) m k=(open Classical in if i<m∧∃o,all[i]?=some o∧o.dst=some k then V i else fA all T V S m k)
 | 0=>by rw [av (by omega)];rfl
 | m+1=>by
  rw [fA,fA,nC hds m];by_cases hm:m=i
  ·subst hm;by_cases hd:∃o,all[m]?=some o∧o.dst=some k
   ·rw [aF ⟨.inl rfl,hd⟩,aF ⟨qQ m,hd⟩]
   ·rw [av fun h=>hd h.2,av fun h=>hd h.2,av fun h=>hd h.2,av fun h=>hd h.2]
  ·by_cases h:S m∧∃o,all[m]?=some o∧o.dst=some k
   ·rw [aF ⟨.inr h.1,h.2⟩,av,aF h];rintro ⟨_,o,a,b⟩;obtain ⟨_,p,c,d⟩:=h;exact hm (hds m p o c a b d)
   ·rw [av (fun e=>h ⟨e.1.resolve_left hm,e.2⟩),av h];by_cases hd:i<m∧∃o,all[i]?=some o∧o.dst=some k
    ·rw [aF hd,aF ⟨by omega,hd.2⟩]
    ·rw [av hd,av fun e=>hd ⟨by omega,e.2⟩]
theorem Ctx.upTo (c:Ctx P lim all sz n T C A N V X an tot R):∀(j i:Nat),i≤j→j≤n→N i≤N j
 | 0,i,h,_=>by rw [show i=0 by omega];exact aj _
 | j+1,i,h,hn=>by
  by_cases e:i=j+1
  ·rw [e];exact aj _
  ·exact gp (c.upTo j i (by omega) (by omega)) (c.up j (by omega))
theorem Ctx.C8 (c:Ctx P lim all sz n T C A N V X an tot R):∀j,j≤n→Live (C 0) (C j) (N 0) (N j)
 | 0,_=>Live.refl _ _ _
 | j+1,h=>Live.trans (c.C8 j (by omega)) (c.lv j (by omega)) (c.upTo j 0 (by omega) (by omega)) (c.up j (by omega))
theorem qA (c:Ctx P lim all sz n T C A N V X an tot R) {S:Nat→Prop} {k:Nat}:∀m,m≤n→(bJ C X R S m k).isSome=true→((C 0).get k).isSome=true∨(N 0≤k∧k<N n)
 | 0,_,h=> .inl h
 | m+1,hm,h=>by
  rw [bJ] at h;split at h
  ·rcases c.C8 (m+1) hm k h with e | e
   ·exact .inl e
   ·exact .inr ⟨e.1,bY e.2 (c.upTo n (m+1) hm (aj _))⟩
  ·exact qA c m (by omega) h
structure Inv (all:Array Oper) (sz n:Nat) (T:Nat→Ev.T AV) (C:Nat→H) (N:Nat→Nat) (V:Nat→AV) (X:Nat→Bool) (R:Nat→Rec) (lim:Nat) (f0:F) (w0:World) (S:Nat→Prop) (f:F) (w:World) (tm:Array Value):Prop where
 sz:tm.size=sz
 sl:∀k,VR f (fA all T V S n k) (tm.getD k undef)
 hr:HR f (bJ C X R S n) w
 fresh:∀j,j<n→¬S j→∀k,N j≤k→k<N (j+1)→f k=none
 le:F.le f0 f
 new:∀k,f k≠f0 k→N 0≤k∧k<N n
 fr:Fr f0 (fun i=>lim≤i∧((C 0).get i).isSome=true) w0 w
 old:∀i x,f0 i=none→f i=some x→w0.heap.size≤x.1∨∃j y,(lim≤j∧((C 0).get j).isSome=true)∧f0 j=some y∧y.1=x.1
theorem AQ (tm:Array Value) (d:Option Tmp) (v:Value) (k:Nat) (hd:∀x,d=some x→x<tm.size):(eD tm d v).getD k undef=if d=some k then v else tm.getD k undef:=by
 cases d with
 | none=>simp [eD]
 | some d=>
  rw [eD,oo _ _ _ _ (hd d rfl)];by_cases e:k=d
  ·rw [aF e,aF (by rw [e])]
  ·rw [av e,av (fun e2=>e (zq e2).symm)]
theorem Ew {t t':Ev.T AV} {sz:Nat} {d:Option Tmp} {v:AV} (h:gL t sz d v=some t'):∀x,d=some x→x<sz:=by
 rintro x rfl;unfold gL at h;simp only at h;split at h
 ·exact bU.1 (by assumption)
 ·cases h
theorem rM (tm:Array Value) (d:Option Tmp) (v:Value):(eD tm d v).size=tm.size:=by cases d<;>simp [eD]
theorem oU (c:Ctx P lim all sz n T C A N V X an tot R) {f0:F} {w0:World} (hf0:∀k,N 0≤k→k<N n→f0 k=none) {S:Nat→Prop} {f:F} {w:World} {tm:Array Value} (I:Inv all sz n T C N V X R lim f0 w0 S f w tm)
  (hS:∀i,i<n→S i→∀j,(an i).testBit j=true→S j) {i:Nat} (hi:i<n) (hni:¬S i) (ha:∀j,(an i).testBit j=true→S j) {o:Oper} (ho:all[i]?=some o):
  ∀(b:Frame) (k:List Item) (cs:List Frame) (ds:List Deferred) (rest:List Nat),∃f' w' tm',Inv all sz n T C N V X R lim f0 w0 (fun j=>j=i∨S j) f' w' tm'∧Steps P (lone (fr b tm ds (.inRegion all (i::rest)::k)) cs w) (lone (fr b tm' ds (.inRegion all rest::k)) cs w'):=by
 have use:∀t,t∈nu all.toList o→VR f (bP (T i) t) (tm.getD t undef):=fun t ht=>by
  have:=I.sl t
  rwa [iC c n i (aj _) (by omega) (fun j p hj hp hd=> ?_)] at this
  rcases c.uses i o t ho ht j p hp hd with rfl | h | h
  ·exact ⟨fun h=>absurd h hni,fun h=>by omega⟩
  ·exact ⟨fun _=>c.FU i j hi h,fun _=>ha j h⟩
  ·exact ⟨fun hs=>absurd (hS j hj hs i h) hni,fun hlt=>by have:=c.FU j i hj h;omega⟩
 have wn:∀b,bI all (T i) o=some b→Region.wanted o (yielded all tm)=b:=fun b hw=>by
  refine wO (fun j want d hg hd=>use d ?_) hw;unfold nu;rw [hg];have:(all.toList[j]?).bind (·.dst)=some d:=by simpa using hd
  refine List.mem_append_right _ ?_;simp only [this,Option.toList_some,vT]
 have hlt:=Ew (c.put i o ho);have hds:∀(k j:Nat) (p o':Oper),all[j]?=some p→all[i]?=some o'→o'.dst=some k→p.dst=some k→j=i:=fun k j p o' h1 h2 h3 h4=>c.JE j i p o' k h1 h2 h4 h3
 have slots:∀(f':F) (u:Value),F.le f f'→VR f' (V i) u→∀k,VR f' (fA all T V (fun j=>j=i∨S j) n k) ((eD tm o.dst u).getD k undef):=fun f' u hle hu k=>by
  rw [nC (hds k) n,AQ _ _ _ _ (by rw [I.sz];exact hlt)];by_cases hd:o.dst=some k
  ·rw [aF ⟨hi,o,ho,hd⟩,aF hd];exact hu
  ·rw [av,av hd]
   ·exact (I.sl k).mono hle
   ·rintro ⟨_,p,hp,G9⟩;rw [ho] at hp;cases hp;exact hd G9
 rcases c.st i o ho with ⟨hx,hw,hv,hC,hN⟩ | ⟨hx,hw,hrec⟩
 ·refine fun b k cs ds rest=>⟨f,w,eD tm o.dst undef,⟨by rw [rM];exact I.sz,slots f undef (F.le_refl f) (by rw [hv];exact .lit _),?_,fun j hj Fz=>I.fresh j hj fun h=>Fz (.inr h),I.le,I.new,I.fr,I.old⟩, .one (qx ho (wn _ hw))⟩;have:bJ C X R (fun j=>j=i∨S j) n=bJ C X R S n:=funext fun k=>qd hx n;rw [this];exact I.hr
 ·intro fb fk cs ds rest
  have hval:∀k,(R i).FF k→bJ C X R S n k=(C i).get k:=fun k hk=>by
   refine jw c n i (aj _) (by omega) fun j hj=>⟨?_,?_⟩
   ·rintro ⟨h1,h2,h3⟩;refine ⟨?_,h2,h3⟩;rcases Nat.lt_trichotomy j i with h | rfl | h
    ·exact h
    ·exact absurd h1 hni
    ·have hna:(an j).testBit i=false:=by
      cases hb:(an j).testBit i with
      | false=>rfl
      | true=>exact absurd (hS j hj h1 i hb) hni
     exact absurd hk ((c.pair j i h hj h2 hx hna).2 k h3)
   ·rintro ⟨h1,h2,h3⟩;refine ⟨?_,h2,h3⟩;cases hb:(an i).testBit j with
    | true=>exact ha j hb
    | false=>exact absurd hk ((c.pair i j h1 hi hx h2 hb).1 k h3)
  have hsub:∀k ob,(R i).hin.get k=some ob→bJ C X R S n k=some ob:=fun k ob h=>by
   obtain ⟨h1,h2⟩:=hrec.r1 k ob h;rw [hval k h2,h1]
  have hlast:∀k j,i<j→j<n→S j→X j=true→(R i).DD k→¬(R j).DD k:=fun k j h1 h2 h3 h4 h5 h6=>by
   have hna:(an j).testBit i=false:=by
    cases hb:(an j).testBit i with
    | false=>rfl
    | true=>exact absurd (hS j h2 h3 i hb) hni
   obtain ⟨p1,p2⟩:=c.pair j i h1 h2 h4 hx hna;rcases hrec.r6 k h5 with e | e
   ·obtain ⟨oj,hoj⟩:=c.op h2;rcases c.st j oj hoj with ⟨hxj,_⟩ | ⟨_,_,Hq⟩
    ·rw [hxj] at h4;cases h4
    ·rcases Hq.r6 k h6 with e2 | e2
     ·have:=c.upTo j (i+1) (by omega) (by omega);omega
     ·exact p1 k h5 e2
   ·exact p2 k h6 e
  have hvs:∀k,bJ C X R (fun j=>j=i∨S j) n k=(open Classical in if (R i).DD k then (R i).hout.get k else bJ C X R S n k):=fun k=>by
   rw [qm hx n (fun j a b=>hlast k j a b) hni];by_cases hd:(R i).DD k
   ·rw [aF ⟨hi,hd⟩,aF hd,(hrec.r2 k).1 hd]
   ·rw [av fun h=>hd h.2,av hd]
  obtain ⟨f',w',u,p,hu,hst⟩:=hrec.r3 f w tm (I.hr.sub hsub) (fun x hx=>by
   cases x with
   | tmp t=>exact use t (by unfold nu;exact List.mem_append_left _ (List.mem_filterMap.2 ⟨.tmp t,by simpa using hx,rfl⟩))
   | const v=>exact VR.of f v
   | global g=>exact qD I.hr.gl g
   | func g=>exact .fn .nil .nil) (I.fresh i hi hni) fb fk cs ds all i rest ho (wn _ hw)
  have hlive:∀j,((R i).hin.get j).isSome=true→∃ob,bJ C X R S n j=some ob:=fun j hj=>by
   cases hg:(R i).hin.get j with
   | none=>rw [hg] at hj;cases hj
   | some ob=>exact ⟨ob,hsub j ob hg⟩
  have hW0:∀j,(R i).W j→(∃y,f0 j=some y)→lim≤j∧((C 0).get j).isSome=true:=fun j hj ⟨y,hy⟩=>by
   obtain ⟨_,h2,h3⟩:=hrec.r4 j hj;obtain ⟨ob,ny⟩:=hlive j h3;rcases qA c (S:=S) n (aj _) (by rw [ny];rfl) with e | e
   ·exact ⟨h2,e⟩
   ·rw [hf0 j e.1 e.2] at hy;cases hy
  have key:∀k1 k2 xh jW x1 x2,(R i).DD k1→¬(R i).DD k2→(R i).hout.get k1=some xh→bJ C X R S n k2=some jW→f' k1=some x1→f' k2=some x2→x1.1≠x2.1:=by
   intro k1 k2 xh jW x1 x2 hd1 hd2 h1 h2 hx1 hx2 he;have hne:k1≠k2:=fun e=>hd2 (e▸hd1);obtain ⟨B2,s2,n2,_,g1,_,_⟩:=I.hr.obj k2 jW h2;have:=p.le _ _ g1;rw [hx2] at this;simp only [ah] at this;subst this;have hdom:=I.hr.dom k2 _ g1;rcases p.live k1 (by rw [h1];rfl) with e | ⟨e1,e2⟩
   ·obtain ⟨ob,ny⟩:=hlive k1 e;obtain ⟨B1,s1,n1,_,g2,_,_⟩:=I.hr.obj k1 ob ny;have:=p.le _ _ g2;rw [hx1] at this;simp only [ah] at this;subst this;exact hne (I.hr.inj k1 k2 ob jW _ _ ny h2 g2 g1 he)
   ·rcases p.old k1 x1 (p.fresh k1 e1 e2) hx1 with h | ⟨j,y,hj,hy,e⟩
    ·simp only at hdom he;omega
    ·obtain ⟨q1,q2,q3⟩:=hrec.r4 j hj;obtain ⟨ob,ny⟩:=hlive j q3;exact hd2 (I.hr.inj j k2 ob jW _ _ ny h2 hy g1 (e.trans he)▸q1)
  have hblk:∀k ob x,¬(R i).DD k→bJ C X R S n k=some ob→f k=some x→w'.heap[x.1]?=w.heap[x.1]?:=fun k ob x hd h hx=>by
   refine p.fr.block x.1 (I.hr.dom k x hx) fun j y hj hy e=> ?_;obtain ⟨q1,q2,q3⟩:=hrec.r4 j hj;obtain ⟨jW,ny⟩:=hlive j q3;exact hd (I.hr.inj j k jW ob _ _ ny h hy hx e▸q1)
  refine ⟨f',w',eD tm o.dst u,⟨by rw [rM];exact I.sz,slots f' u p.le hu,⟨fun k ob h=> ?_,fun k1 k2 xh jW x1 x2 h1 h2 hx1 hx2 he=> ?_,p.hr.dom,p.hr.gl⟩,fun j hj Fz k h1 h2=> ?_,I.le.trans p.le,fun k hk=> ?_,⟨p.fr.os.trans I.fr.os,p.fr.tape.trans I.fr.tape,p.fr.output.trans I.fr.output,gp I.fr.size p.fr.size,fun B hB hne=> ?_⟩,fun k x h1 h2=> ?_⟩,hst⟩
  ·rw [hvs] at h;split at h
   ·exact p.hr.obj k ob h
   ·rename_i hd;obtain ⟨B,s,m,jW,g1,g2,g3⟩:=I.hr.obj k ob h;exact ⟨B,s,m,jW,p.le _ _ g1,by rw [hblk k ob _ hd h g1];exact g2,g3.mono p.le⟩
  ·rw [hvs] at h1 h2;split at h1<;>split at h2
   ·exact p.hr.inj k1 k2 xh jW x1 x2 h1 h2 hx1 hx2 he
   ·exact absurd he (key k1 k2 xh jW x1 x2 (by assumption) (by assumption) h1 h2 hx1 hx2)
   ·exact absurd he.symm (key k2 k1 jW xh x2 x1 (by assumption) (by assumption) h2 h1 hx2 hx1)
   ·obtain ⟨_,_,_,_,g1,_,_⟩:=I.hr.obj k1 xh h1;obtain ⟨_,_,_,_,g2,_,_⟩:=I.hr.obj k2 jW h2;have e1:=p.le _ _ g1;have e2:=p.le _ _ g2;rw [hx1] at e1;rw [hx2] at e2;simp only [ah] at e1 e2;subst e1;subst e2;exact I.hr.inj k1 k2 xh jW _ _ h1 h2 g1 g2 he
  ·have hji:j≠i:=fun e=>Fz (.inl e)
   have e:f' k=f k:=BU fun e=>by
    have q:=p.new k e;rcases o8 j i with h | h
    ·have:=c.upTo i (j+1) (by omega) (by omega);omega
    ·have:=c.upTo j (i+1) (by omega) (by omega);omega
   rw [e];exact I.fresh j hj (fun h=>Fz (.inr h)) k h1 h2
  ·by_cases e:f k=f0 k
   ·have:=p.new k (by rw [e];exact hk);have a:=c.upTo i 0 (by omega) (by omega);have b:=c.upTo n (i+1) (by omega) (aj _);omega
   ·exact I.new k e
  ·rw [p.fr.block B (bY hB I.fr.size) (fun j x hj hx=> ?_),I.fr.block B hB hne];cases hf:f0 j with
   | some y=>
    have:=I.le _ _ hf;rw [hx] at this;simp only [ah] at this;subst this;exact hne j _ (hW0 j hj ⟨_,hf⟩) hf
   | none=>
    rcases I.old j x hf hx with h | ⟨j2,y,hj2,hy,e⟩
    ·omega
    ·rw [← e];exact hne j2 y hj2 hy
  ·cases hf:f k with
   | some y=>
    have:=p.le _ _ hf;rw [h2] at this;simp only [ah] at this;subst this;exact I.old k _ h1 hf
   | none=>
    rcases p.old k x hf h2 with h | ⟨j,y,hj,hy,e⟩
    ·exact .inl (gp I.fr.size h)
    ·cases hg:f0 j with
     | some z=>
      have:=I.le _ _ hg;rw [hy] at this;simp only [ah] at this;subst this;exact .inr ⟨j,_,hW0 j hj ⟨_,hg⟩,hg,e⟩
     | none=>
      rw [← e];exact I.old j y hg hy
end
end
section
open Go
variable {P:Program}
theorem sJ (g:Nat→Nat) (j:Nat):∀(l:List Edge) (s:Nat),(l.foldl (Ah g) s).testBit j=true→s.testBit j=true∨∃e∈l,Region.binds .any e=true∧(e.on=j∨(g e.on).testBit j=true)
 | [],_,h=> .inl h
 | e::l,s,h=>by
  rw [BN] at h;rcases sJ g j l _ h with h | ⟨e',h1,h2⟩
  ·cases hb:Region.binds .any e with
   | true=>
    simp only [Ah,hb,Ey,G6,Dp,Cm] at h;rcases h with (h | h) | h
    ·exact .inl h
    ·exact .inr ⟨e,uF,hb, .inl h⟩
    ·exact .inr ⟨e,uF,hb, .inr h⟩
   | false=>simp only [Ah,hb] at h;exact .inl h
  ·exact .inr ⟨e',zw _ h1,h2⟩
theorem rH:∀(l:List Oper) (acc:List Nat),(∀i,i<acc.length→(gM l acc).getD i 0=acc.getD i 0)∧
  ∀(q:Nat) (o:Oper) (j:Nat),l[q]?=some o→((gM l acc).getD (acc.length+q) 0).testBit j=true→∃e∈o.after.toList,Region.binds .any e=true∧(e.on=j∨(e.on<acc.length+q∧((gM l acc).getD e.on 0).testBit j=true))
 | [],acc=>⟨fun _ _=>rfl,fun q o j h=>by simp at h⟩
 | o::l,acc=>by
  rw [gM];obtain ⟨h1,h2⟩:=rH l (acc++[vO acc o]);have hlen:(acc++[vO acc o]).length=acc.length+1:=by simp
  have hold:∀i,i<acc.length→(acc++[vO acc o]).getD i 0=acc.getD i 0:=fun i hi=>by
   rw [uD,Fg hi,← uD]
  refine ⟨fun i hi=>by rw [h1 i (by omega),hold i hi],fun q p j hq hb=> ?_⟩;cases q with
  | zero=>
   simp only [C9,ah] at hq;subst hq;rw [Bu,h1 acc.length (by omega)] at hb
   have:(acc++[vO acc o]).getD acc.length 0=vO acc o:=by
    rw [uD,Ik (aj _)];simp
   rw [this] at hb;rcases sJ (fun k=>acc.getD k 0) j _ _ hb with h | ⟨e,he,hbd,hj⟩
   ·simp at h
   ·refine ⟨e,he,hbd,hj.imp id fun h=> ?_⟩
    have hlt:e.on<acc.length:=BU fun hn=>by
     rw [uD,mR (by omega)] at h;simp at h
    exact ⟨by omega,by rw [h1 e.on (by omega),hold e.on hlt];exact h⟩
  | succ q=>
   obtain ⟨e,he,hbd,hj⟩:=h2 q p j (by simpa using hq) (by rw [hlen];rw [show acc.length+1+q=acc.length+(q+1) by omega];exact hb);exact ⟨e,he,hbd,hj.imp id fun h=>⟨by omega,h.2⟩⟩
theorem ig {ops:List Oper} {i:Nat} {o:Oper} (h:ops[i]?=some o):(i,o)∈qg ops:=by
 unfold qg;have hi:i<ops.length:=(zK.1 h).1;rw [List.mem_iff_getElem?];refine ⟨i,?_⟩;rw [List.getElem?_zip_eq_some];exact ⟨List.getElem?_range hi,h⟩
theorem zH {ops:List Oper} {pl:List (Oper×Nat×Bool)} (h:plan ops=some pl):zP ops (gM ops [])=true∧pl.length=ops.length∧∀i o,ops[i]?=some o→pl[i]?=some (o,(gM ops []).getD i 0,lu ops (gM ops []) i):=by
 have hl:∀(l:List Oper) (acc:List Nat),(gM l acc).length=acc.length+l.length:=fun l=>by
  induction l with
  | nil=>intro acc;rfl
  | cons o l ih=>intro acc;rw [gM,ih];simp;omega
 have hal:=hl ops [];simp only [List.length_nil,tJ] at hal;unfold plan at h;simp only at h;split at h
 ·rename_i hr;simp only [ah] at h;subst h;refine ⟨hr,by simp [hal],fun i o ho=> ?_⟩;have hi:i<ops.length:=(zK.1 ho).1;rw [sW,dR (by simp [hal,hi])];have e1:ops[i]=o:=(zK.1 ho).2;simp [List.getElem_zip,e1,uD,dR (show i<(gM ops []).length by omega)]
 ·cases h
section
variable {lim:Nat} {all:Array Oper} {sz:Nat}
theorem yM (hgo:kF P=true) {call:ax} (hc:iU P call) (mc:GC call) (hmx:P.follows .mixedOrders=true) {pl:List (Oper×Nat×Bool)} (hpl:plan all.toList=some pl) {t t':T AV} {h h':H} {nx nx':Nat} (he:fD P lim call all sz pl 0 t h [] nx=some (t',h',nx')) (hlim:lim≤nx)
  {f0:F} {w0:World} {Fy:Array Value} (H0:HR f0 h.get w0) (hb:BD h nx) (ht:TR f0 t sz Fy) (hn:∀i,nx≤i→i<nx'→f0 i=none) (τ:Nat):
  ∀(b:Frame) (k:List Item) (cs:List Frame) (ds:List Deferred),∃f' w' tm',aP f0 lim h nx nx' w0 f' h' w'∧TR f' t' sz tm'∧Steps P (lone (fr b Fy ds (.inRegion all (Region.schedule (P.follows .mixedOrders) all τ)::k)) cs w0.drew) (lone (fr b tm' ds k) cs w'):=by
 intro b k cs ds;obtain ⟨Co,Je,Iu⟩:=zH hpl;obtain ⟨T,C,A,N,V,X,⟨hst⟩,e1,e2,e3,e4,e5,e6,e7⟩:=trace pl 0 _ _ _ _ _ _ _ he;obtain ⟨n,hnn⟩:∃n,n=all.size:=⟨_,rfl⟩
 have hal:all.toList.length=n:=by rw [hnn];simp
 rw [Je,hal,tJ] at e5 e6 e7;obtain ⟨an,Cx⟩:∃an:Nat→Nat,an=fun i=>(gM all.toList []).getD i 0:=⟨_,rfl⟩
 have hstep:∀i o,all[i]?=some o→gL (T i) sz o.dst (V i)=some (T (i+1))∧((X i=false∧bI all (T i) o=some false∧V i=gF∧C (i+1)=C i∧A (i+1)=A i∧N (i+1)=N i)∨(X i=true∧bI all (T i) o=some true∧jh P lim call (T i) (C i) (A i) (N i) i o (an i) (lu all.toList (gM all.toList []) i)=some (V i,C (i+1),N (i+1),A (i+1)))):=fun i o ho=>by
  have:=hst i o _ _ (Iu i o (by simpa using ho));simp only [tJ] at this;rw [Cx];exact this
 have hop:∀i,i<n→∃o,all[i]?=some o:=fun i hi=>⟨all[i]'(by omega),by simp [hnn▸hi]⟩
 have hup:∀i,i<n→N i≤N (i+1)∧Live (C i) (C (i+1)) (N i) (N (i+1)):=fun i hi=>by
  obtain ⟨o,ho⟩:=hop i hi;rcases (hstep i o ho).2 with ⟨_,_,_,h1,_,h2⟩ | ⟨_,_,h1⟩
  ·rw [h1,h2];exact ⟨aj _,Live.refl _ _ _⟩
  ·exact ⟨pE mc h1,uY mc h1⟩
 have hrec:∀i,i≤n→(BD (C i) (N i)∧EI (A i) (N i)∧lim≤N i):=fun i=>by
  induction i with
  | zero=>exact fun _=>⟨by rw [e2,e4];exact hb,by rw [e3];exact fun a ha=>(by cases ha),by rw [e4];exact hlim⟩
  | succ i ih=>
   intro hi;obtain ⟨h1,h2,h3⟩:=ih (by omega);obtain ⟨u1,u2⟩:=hup i (by omega);refine ⟨fun k hk=>(u2 k hk).elim (fun e=>bY (h1 k e) u1) (·.2),?_,by omega⟩;obtain ⟨o,ho⟩:=hop i (by omega);rcases (hstep i o ho).2 with ⟨_,_,_,_,a1,a2⟩ | ⟨_,_,a1⟩
   ·rw [a1,a2];exact h2
   ·obtain ⟨r,hr⟩:=CY hgo hc mc h3 h1 h2 a1;exact hr.ei
 have hR:∀i,∃r:Rec,∀o,all[i]?=some o→X i=true→y8 P lim (T i) (C i) (A i) (N i) i o (an i) (lu all.toList (gM all.toList []) i) (V i) (C (i+1)) (N (i+1)) (A (i+1)) r:=fun i=>by
  by_cases hx:∃o,all[i]?=some o∧X i=true
  ·obtain ⟨o,ho,hx⟩:=hx
   have hi:i<n:=by
    have:=(qM.1 ho).1;omega
   obtain ⟨h1,h2,h3⟩:=hrec i (by omega);rcases (hstep i o ho).2 with ⟨a,_⟩ | ⟨_,_,a1⟩
   ·rw [hx] at a;cases a
   ·obtain ⟨r,hr⟩:=CY hgo hc mc h3 h1 h2 a1;exact ⟨r,fun o' ho' _=>by rw [ho] at ho';cases ho';exact hr⟩
  ·exact ⟨⟨fun _=>False,fun _=>False, .e, .e,fun _=>False⟩,fun o ho hx'=>absurd ⟨o,ho,hx'⟩ hx⟩
 obtain ⟨R,hR⟩:=Classical.axiomOfChoice hR
 have Gl:∀i,i<n→∀a∈A i,a∈A (i+1):=fun i hi a ha=>by
  obtain ⟨o,ho⟩:=hop i hi;rcases (hstep i o ho).2 with ⟨_,_,_,_,a1,_⟩ | ⟨hx,_,a1⟩
  ·rw [a1];exact ha
  ·rcases (hR i o ho hx).Jy with ⟨e,_⟩ | ⟨b,e,_⟩ | ⟨e,_⟩<;>rw [e]
   ·exact ha
   ·exact zw _ ha
   ·exact ha
 have Ja:∀(j i:Nat),i≤j→j≤n→∀a∈A i,a∈A j:=fun j=>by
  induction j with
  | zero=>intro i hi _ a ha;rw [show i=0 by omega] at ha;exact ha
  | succ j ih=>
   intro i hi hj a ha;by_cases e:i=j+1
   ·rw [← e];exact ha
   ·exact Gl j (by omega) a (ih i (by omega) (by omega) a ha)
 have zX:∀(j i:Nat),i≤j→j≤n→N i≤N j:=fun j=>by
  induction j with
  | zero=>intro i hi _;rw [show i=0 by omega];exact aj _
  | succ j ih=>
   intro i hi hj;by_cases e:i=j+1
   ·rw [e];exact aj _
   ·exact gp (ih i (by omega) (by omega)) (hup j (by omega)).1
 unfold zP at Co;rw [aX,aX] at Co;obtain ⟨⟨hback,ze⟩,CR⟩:=Co;unfold Ac at hback;unfold Am at ze;rw [oL] at hback ze CR
 have wC:∀i o,all[i]?=some o→∀e∈o.after,Region.binds .any e=true→e.on<i:=fun i o ho e hee hbe=>by
  have:=hback (i,o) (ig (by simpa using ho));simp only [oL] at this;have:=this e (by simpa using hee);rw [hbe] at this;exact bU.1 (by simpa using this)
 have Ed:∀i o j,all[i]?=some o→(an i).testBit j=true→∃e∈o.after,Region.binds .any e=true∧(e.on=j∨(e.on<i∧(an e.on).testBit j=true)):=fun i o j ho hj=>by
  have:=(rH all.toList []).2 i o j (by simpa using ho) (by rw [Cx] at hj;simpa using hj);obtain ⟨e,h1,h2,h3⟩:=this;refine ⟨e,by simpa using h1,h2,h3.imp id fun h=>⟨by simpa using h.1,by rw [Cx];exact h.2⟩⟩
 have GZ:∀m i j,i≤m→i<n→(an i).testBit j=true→j<i:=fun m=>by
  induction m with
  | zero=>
   intro i j him hi hj;obtain ⟨o,ho⟩:=hop i hi;obtain ⟨e,h1,h2,h3⟩:=Ed i o j ho hj;have:=wC i o ho e h1 h2;omega
  | succ m ih=>
   intro i j him hi hj;obtain ⟨o,ho⟩:=hop i hi;obtain ⟨e,h1,h2,h3⟩:=Ed i o j ho hj;have:=wC i o ho e h1 h2;rcases h3 with h3 | ⟨_,h3⟩
   ·omega
   ·have:=ih e.on j (by omega) (by omega) h3;omega
 have c:Ctx P lim all sz n T C A N V X an (lu all.toList (gM all.toList [])) R:=by
  refine ⟨hnn.symm,fun i o ho=>(hstep i o ho).1,fun i o ho=> ?_,fun i j hji hi hxi hxj hna=> ?_,fun i hi=>(hup i hi).2,fun i hi=>(hup i hi).1,fun i j hi hj=>GZ i i j (aj _) hi hj,fun i o u ho hu j p hp hd=> ?_,fun i j o p d ho hp h1 h2=> ?_⟩
  ·rcases (hstep i o ho).2 with ⟨a,b,c,d,_,e⟩ | ⟨a,b,_⟩
   ·exact .inl ⟨a,b,c,d,e⟩
   ·exact .inr ⟨a,b,hR i o ho a⟩
  ·obtain ⟨oi,hoi⟩:=hop i hi;obtain ⟨oj,hoj⟩:=hop j (by omega);have ri:=hR i oi hoi hxi;have rj:=hR j oj hoj hxj;rcases rj.Jy with ⟨_,h1,h2⟩ | ⟨a,ha,hai,h1,h2⟩ | ⟨_,htot⟩
   ·exact ⟨fun k hk=>absurd hk (h1 k),fun k _ hk=>h2 k hk⟩
   ·have hmem:a∈A i:=Ja i (j+1) (by omega) (by omega) a (by rw [ha];exact uF);obtain ⟨c1,c2⟩:=ri.conf a hmem (by rw [hai];exact hna);refine ⟨fun k hk=>c1 k (h1 k hk),fun k hk hf=> ?_⟩;obtain ⟨f1,f2⟩:=h2 k hf;have:=c2 k hk (by have:=zX i j (by omega) (by omega);omega);rw [f1] at this;cases this
   ·cases hbt:tC oi.op with
    | false=>
     obtain ⟨g1,g2⟩:=ri.hb hbt;exact ⟨fun k _ hk=>g2 k hk,fun k hk=>absurd hk (g1 k)⟩
    | true=>
     unfold lu at htot;rw [oL] at htot;have:=htot (i,oi) (ig (by simpa using hoi));simp only [hbt,Bool.not_true,Cw,Dp] at this;rcases this with h | h
     ·have:=cO h;omega
     ·rw [Cx] at hna;simp only at hna;rw [h] at hna;cases hna
  ·have:=CR (i,o) (ig (by simpa using ho));simp only [oL] at this;have:=this u hu;unfold Dn at this;rw [oL] at this;have:=this (j,p) (ig (by simpa using hp));simp only [hd,Cf,Bool.not_true,zG] at this;unfold F4 at this;simp only [Dp] at this;rw [Cx];rcases this with (h | h) | h
   ·exact .inl (bQ h).symm
   ·exact .inr (.inl h)
   ·exact .inr (.inr h)
  ·have:=ze (i,o) (ig (by simpa using ho));simp only [h1] at this;rw [oL] at this;have:=this (j,p) (ig (by simpa using hp));simp only [h2,Cf,Bool.not_true,Cw] at this;exact bQ this
 have hfr:∀k,N 0≤k→k<N n→f0 k=none:=by rw [e4,e7];exact hn
 have I0:Inv all sz n T C N V X R lim f0 w0.drew (fun _=>False) f0 w0.drew Fy:=by
  have hv:bJ C X R (fun _=>False) n=(C 0).get:=funext fun k=>jw c n 0 (aj _) (Nat.zero_le _) (fun j _=>⟨fun h=>h.1.elim,fun h=>absurd h.1 (Nat.not_lt_zero _)⟩);have hs:∀k,fA all T V (fun _=>False) n k=bP (T 0) k:=fun k=>iC c n 0 (aj _) (Nat.zero_le _) (fun j o _ _ _=>⟨fun h=>h.elim,fun h=>absurd h (Nat.not_lt_zero _)⟩);refine ⟨ht.1,fun k=>by rw [hs,e1];exact ht.2 k,by rw [hv,e2];exact H0.congr rfl,fun j hj _ k h1 h2=>hfr k ?_ ?_,F.le_refl _,fun k hk=>absurd rfl hk,Fr.refl _ _ _,fun i x h1 h2=>by rw [h1] at h2;cases h2⟩
  ·have:=zX j 0 (by omega) (by omega);omega
  ·have:=zX n (j+1) (by omega) (aj _);omega
 have run:∀(fuel:Nat) (U:List Nat) (listed:Array Bool) (τ:Nat) (f:F) (w:World) (tm:Array Value),U.length=fuel→U.Nodup→listed.size=n→(∀i,i∈U↔i<n∧listed.getD i true=false)→
   (∀i,i<n→listed.getD i false=true→∀j,(an i).testBit j=true→listed.getD j false=true)→Inv all sz n T C N V X R lim f0 w0.drew (fun j=>listed.getD j false=true) f w tm→
   ∃f' w' tm',Inv all sz n T C N V X R lim f0 w0.drew (fun j=>j<n) f' w' tm'∧Steps P (lone (fr b tm ds (.inRegion all (Region.linearise.go .any all fuel τ listed [])::k)) cs w) (lone (fr b tm' ds k) cs w'):=by
  intro fuel
  induction fuel with
  | zero=>
   intro U listed τ f w tm hU _ hls Dh _ I
   have hall:(fun j=>listed.getD j false=true)=fun j=>j<n:=funext fun j=>propext ⟨fun h=>BU fun hn=>(by
     have:listed[j]?=none:=by simp;omega
     rw [uB,this] at h
     cases h),fun h=>(by
     have hj:j<listed.size:=by omega
     cases hb2:listed.getD j true with
     | false=>have:=(Dh j).2 ⟨h,hb2⟩;rw [tQ.1 hU] at this;cases this
     | true=>simpa [Array.getD,hj] using hb2)⟩
   rw [hall] at I;exact ⟨f,w,tm,I, .one (by simpa [Region.linearise.go] using kH)⟩
  | succ fuel ih=>
   intro U listed τ f w tm hU IB hls Dh hcl I
   have hex:∀(m i:Nat),i≤m→i<n→listed.getD i true=false→∃j,j∈Region.ready .any all listed:=by
    intro m
    induction m with
    | zero=>
     intro i him hin hun;obtain ⟨o,ho⟩:=hop i hin;refine ⟨i,?_⟩;unfold Region.ready;rw [List.mem_filter];refine ⟨by simp;omega,?_⟩;rw [hun,ho];simp only [Bool.not_false,jb,nO,wF,GU];intro e he;cases hb2:Region.binds .any e with
     | false=>rfl
     | true=>have:=wC i o ho e he hb2;omega
    | succ m JR=>
     intro i him hin hun;obtain ⟨o,ho⟩:=hop i hin;by_cases ha:∀e∈o.after,Region.binds .any e=true→listed.getD e.on false=true
     ·refine ⟨i,?_⟩;unfold Region.ready;rw [List.mem_filter];refine ⟨by simp;omega,?_⟩;rw [hun,ho];simp only [Bool.not_false,jb,nO,wF,GU];intro e he;cases hb2:Region.binds .any e with
      | false=>rfl
      | true=>rw [ha e he hb2];rfl
     ·obtain ⟨e,he⟩:=Classical.not_forall.1 ha;obtain ⟨h1,he⟩:=Classical.not_imp.1 he;obtain ⟨h2,h3⟩:=Classical.not_imp.1 he;have hlt:=wC i o ho e h1 h2;refine JR e.on (by omega) (by omega) ?_;have hs:e.on<listed.size:=by omega
      simp only [Array.getD,hs,dif_pos] at h3 ⊢;simpa using h3
   obtain ⟨i1,hi1⟩:∃i1,i1∈U:=by cases U with
    | nil=>cases hU
    | cons x U=>exact ⟨x,uF⟩
   have FV:=(Dh i1).1 hi1;obtain ⟨j0,hj0⟩:=hex i1 i1 (aj _) FV.1 FV.2;simp only [Region.linearise.go]
   change ∃f' w' tm',Inv all sz n T C N V X R lim f0 w0.drew (fun j=>j<n) f' w' tm'∧Steps P (lone (fr b tm ds (.inRegion all (match (Region.ready .any all listed)[τ % (Region.ready .any all listed).length]? with
    | some i=>Region.linearise.go .any all fuel (τ / (Region.ready .any all listed).length) (listed.setIfInBounds i true) [i]
    | none=>[].reverse)::k)) cs w) (lone (fr b tm' ds k) cs w')
   have hpos:0<(Region.ready .any all listed).length:=List.length_pos_of_mem hj0;cases hi:(Region.ready .any all listed)[τ % (Region.ready .any all listed).length]? with
   | none=>
    rw [GH] at hi;have:=xR τ hpos;omega
   | some i=>
    have hir:=List.mem_of_getElem? hi;unfold Region.ready at hir;rw [List.mem_filter] at hir;obtain ⟨h1,h2⟩:=hir;have hin:i<n:=by simpa [hnn] using h1
    obtain ⟨o,ho⟩:=hop i hin;rw [ho] at h2;simp only [jb,nO,aX,Ba,GU] at h2;obtain ⟨hun,hrd⟩:=h2;have hsz:i<listed.size:=by omega
    have hni:¬listed.getD i false=true:=by
     simp only [Array.getD,hsz,dif_pos] at hun ⊢;rw [hun];exact Bool.false_ne_true
    have hai:∀j,(an i).testBit j=true→listed.getD j false=true:=fun j hj=>by
     obtain ⟨e,g1,g2,g3⟩:=Ed i o j ho hj;have:=hrd e g1;rw [g2] at this;have hs:listed.getD e.on false=true:=by simpa using this
     rcases g3 with rfl | ⟨g4,g5⟩
     ·exact hs
     ·exact hcl e.on (by omega) hs j g5
    obtain ⟨f',w',tm',I',st⟩:=oU c (by exact hfr) I (fun i hi hs j hj=>hcl i hi hs j hj) hin hni hai ho b k cs ds (Region.linearise.go .any all fuel (τ / (Region.ready .any all listed).length) (listed.setIfInBounds i true) [])
    have hset:∀j,(listed.setIfInBounds i true).getD j false=true↔j=i∨listed.getD j false=true:=fun j=>by
     simp only [uB,Cu];by_cases e:i=j
     ·subst e;simp [hsz]
     ·rw [av e];constructor
      ·exact fun h=> .inr h
      ·rintro (h | h)
       ·exact absurd h.symm e
       ·exact h
    have JP:(fun j=>j=i∨listed.getD j false=true)=fun j=>(listed.setIfInBounds i true).getD j false=true:=funext fun j=>propext (hset j).symm;rw [JP] at I';have J7:i∈U:=(Dh i).2 ⟨hin,hun⟩
    obtain ⟨f2,w2,qN,I2,st2⟩:=ih (U.erase i) (listed.setIfInBounds i true) (τ / (Region.ready .any all listed).length) f' w' tm' (by rw [List.length_erase_of_mem J7,hU];rfl) (IB.erase i) (by simpa using hls) (fun j=>by
      rw [IB.mem_erase_iff,Dh j]
      simp only [uB,Cu]
      by_cases e:i=j
      ·subst e;simp [hsz]
      ·rw [av e]
       exact ⟨fun h=>h.2,fun h=>⟨fun e2=>e e2.symm,h⟩⟩)
     (fun j hj hs q hq=>by
      rw [hset] at hs ⊢
      rcases hs with rfl | hs
      ·exact .inr (hai q hq)
      ·exact .inr (hcl j hj hs q hq)) I'
    refine ⟨f2,w2,qN,I2,?_⟩;simp only;rw [linearise_go_acc,List.reverse_singleton,List.singleton_append];exact st.trans st2
 obtain ⟨f',w',tm',I,st⟩:=run n (List.range n) (Array.replicate n false) τ f0 w0.drew Fy (by simp) List.nodup_range (by simp) (fun i=>by
   rw [AL]
   refine ⟨fun h=>⟨h,?_⟩,fun h=>h.1⟩
   simp [Array.getD,h]) (fun i hi h=>by
   simp [Array.getD] at h) (by
   have:(fun j=>(Array.replicate n false).getD j false=true)=fun _=>False:=funext fun j=>propext ⟨fun h=>by
    simp [Array.getD] at h,fun h=>h.elim⟩
   rw [this];exact I0)
 have hv:bJ C X R (fun j=>j<n) n=(C n).get:=funext fun k=>jw c n n (aj _) (aj _) (fun j _=>Iff.rfl);have hs:∀k,fA all T V (fun j=>j<n) n k=bP (T n) k:=fun k=>iC c n n (aj _) (aj _) (fun j o _ _ _=>Iff.rfl);refine ⟨f',w',tm',⟨I.le,fun k hk=> ?_,by rw [← e6,← hv];exact I.hr,?_,?_,?_,?_,hn⟩,⟨I.sz,fun k=>by rw [← e5,← hs];exact I.sl k⟩,?_⟩
 ·have:=I.new k hk;rw [e4,e7] at this;exact this
 ·have:=I.fr;rw [e2] at this;exact ⟨this.os,this.tape,this.output,this.size,this.block⟩
 ·have:=I.old;rw [e2] at this;exact this
 ·rw [← e4,← e7];exact zX n 0 (Nat.zero_le _) (aj _)
 ·have:=c.C8 n (aj _);rw [e2,e4,e6,e7] at this;exact this
 ·have:=st;simp only [Region.schedule,hmx,Bool.true_or,jX];unfold Region.linearise;rw [← hnn];exact this
end
end
section
open Go
variable {P:Program}
theorem uU {id i:Nat} {k:List Item} (h:i≠id):exitTo i (.inBlock id::k)=exitTo i k:=by
 have:(id==i)=false:=by simp;exact fun e=>h e.symm
 simp [exitTo,this]
theorem uN (hgo:kF P=true) (hmx:P.follows .mixedOrders=true) {K:ax} (hK:HK P K) {ih:gP} (hi:iP P ih) (mi:GE ih):iP P (mU P K ih):=by
 intro lim fid rd c st e st' hr hlim f w tm ds R H0 hb ht hd hR hn
 have same:∀{x:Ex},some (x,st)=some (e,st')→(∀(b:Frame) (k:List Item) (cs:List Frame),jy P (lone (fr b tm ds (.code c::k)) cs w) b k cs tm ds w undef x)→XV f undef x→
   ∀(b:Frame) (k:List Item) (cs:List Frame),b.fn=fid→b.roundOf=R→∃f' w' tm' ds' u,aP f lim st.h st.nx st'.nx w f' st'.h w'∧TR f' st'.t st'.sz tm'∧DR f' st'.d ds'∧XV f' u e∧jy P (lone (fr b tm ds (.code c::k)) cs w) b k cs tm' ds' w' u e:=by
  intro x hx h hxv;simp only [ah,ay] at hx;obtain ⟨rfl,rfl⟩:=hx;exact fun b k cs _ _=>⟨f,w,tm,ds,undef,aP.same H0,ht,hd,hxv,h b k cs⟩
 have two:∀{c1 c2:Code} {st1:St},ih lim fid rd c1 st=some (.normal,st1)→ih lim fid rd c2 st1=some (e,st')→∀(b:Frame) (k k1:List Item) (cs:List Frame),b.fn=fid→b.roundOf=R→
   ∃w1 bT ds1 f' w' tm' ds' u,aP f lim st.h st.nx st'.nx w f' st'.h w'∧TR f' st'.t st'.sz tm'∧DR f' st'.d ds'∧XV f' u e∧Steps P (lone (fr b tm ds (.code c1::k1)) cs w) (lone (fr b bT ds1 k1) cs w1)∧
    jy P (lone (fr b bT ds1 (.code c2::k)) cs w1) b k cs tm' ds' w' u e:=by
  intro c1 c2 st1 h1 h2 b k k1 cs hbf hbr;have m1:=(mi _ _ _ _ _ _ _ h1).1;have m2:=(mi _ _ _ _ _ _ _ h2).1;obtain ⟨f1,w1,bT,ds1,u1,p1,q1,r1,_,s1⟩:=hi _ _ _ _ _ _ _ h1 hlim f w tm ds R H0 hb ht hd hR (fun i a b=>hn i a (by omega)) b k1 cs hbf hbr;obtain ⟨f2,w2,qN,xx,u2,p2,q2,r2,x2,s2⟩:=hi _ _ _ _ _ _ _ h2 (by omega) f1 w1 bT ds1 R p1.hr (hb.next p1) q1 r1 (hR.mono p1.le) (fM p1 hn) b k cs hbf hbr;exact ⟨w1,bT,ds1,f2,w2,qN,xx,u2,p1.trans p2 hn,q2,r2,x2,s1,s2⟩
 have pre:∀{c1:Code},ih lim fid rd c1 st=some (e,st')→(∀(b:Frame) (k:List Item) (cs:List Frame),step P (lone (fr b tm ds (.code c::k)) cs w)= .next (lone (fr b tm ds (.code c1::k)) cs w))→
   ∀(b:Frame) (k:List Item) (cs:List Frame),b.fn=fid→b.roundOf=R→∃f' w' tm' ds' u,aP f lim st.h st.nx st'.nx w f' st'.h w'∧TR f' st'.t st'.sz tm'∧DR f' st'.d ds'∧XV f' u e∧jy P (lone (fr b tm ds (.code c::k)) cs w) b k cs tm' ds' w' u e:=by
  intro c1 h1 hs;intro b k cs hbf hbr;obtain ⟨f1,w1,bT,ds1,u1,p1,q1,r1,x1,s1⟩:=hi _ _ _ _ _ _ _ h1 hlim f w tm ds R H0 hb ht hd hR hn b k cs hbf hbr;exact ⟨f1,w1,bT,ds1,u1,p1,q1,r1,x1,jy.steps (.one (hs b k cs)) s1⟩
 unfold mU at hr;split at hr
 ·exact same hr (fun b k cs=>Steps.one Cs) trivial
 ·exact same hr (fun b k cs=>Steps.one BH) trivial
 ·rename_i a b2;split at hr
  ·rename_i st1 h1;intro b k cs hbf hbr;obtain ⟨w1,bT,ds1,f2,w2,qN,xx,u2,p,q,r,x2,s1,s2⟩:=two h1 hr b k (.code b2::k) cs hbf hbr;exact ⟨f2,w2,qN,xx,u2,p,q,r,x2,jy.steps (.head wG s1) s2⟩
  ·rename_i hne;intro b k cs hbf hbr;obtain ⟨f1,w1,bT,ds1,u1,p1,q1,r1,x1,this⟩:=hi _ _ _ _ _ _ _ hr hlim f w tm ds R H0 hb ht hd hR hn b (.code b2::k) cs hbf hbr;refine ⟨f1,w1,bT,ds1,u1,p1,q1,r1,x1,jy.steps (.one wG) ?_⟩;cases e with
   | normal=>exact absurd hr (fun h=>hne _ h)
   | exit id=>obtain ⟨todo,t1,t2⟩:=this;exact ⟨todo,by rw [t1];rfl,t2⟩
   | ret=>exact this
   | panic v=>exact this
 ·rename_i cnd x y;have hc:=bW H0.gl ht cnd;split at hr
  ·rename_i hcv;rw [hcv] at hc;generalize hg:aM tm cnd=u at hc;cases hc;exact pre hr fun b k cs=>by have:=xG (P:=P) (b:=b) (ds:=ds) (k:=k) (cs:=cs) (w:=w) (x:=x) (y:=y) hg;simpa using this
  ·rename_i hcv;rw [hcv] at hc;generalize hg:aM tm cnd=u at hc;cases hc;exact pre hr fun b k cs=>by have:=xG (P:=P) (b:=b) (ds:=ds) (k:=k) (cs:=cs) (w:=w) (x:=x) (y:=y) hg;simpa using this
  ·cases hr
 ·rename_i id bo;split at hr
  ·rename_i i st1 h1;have hst:st1=st':=by split at hr<;>simp only [ah,ay] at hr<;>exact hr.2
   subst hst;intro b k cs hbf hbr;obtain ⟨f1,w1,bT,ds1,u1,p1,q1,r1,_,todo,t1,t2⟩:=hi _ _ _ _ _ _ _ h1 hlim f w tm ds R H0 hb ht hd hR hn b (.inBlock id::k) cs hbf hbr;have x1:XV f1 u1 e:=by split at hr<;>simp only [ah,ay] at hr<;>rw [← hr.1]<;>trivial
   refine ⟨f1,w1,bT,ds1,u1,p1,q1,r1,x1,?_⟩;split at hr
   ·rename_i he;have he:=bQ he;subst he;simp only [ah,ay] at hr;rw [← hr.1];exact Steps.head jH (mg t2 (.one (CG (by rw [t1];simp [exitTo]))))
   ·rename_i he;have hne:i≠id:=fun e2=>by rw [e2,Cf] at he;cases he
    simp only [ah,ay] at hr;rw [← hr.1];exact ⟨todo,by rw [t1,uU hne], .head jH t2⟩
  ·rename_i hne;intro b k cs hbf hbr;obtain ⟨f1,w1,bT,ds1,u1,p1,q1,r1,x1,this⟩:=hi _ _ _ _ _ _ _ hr hlim f w tm ds R H0 hb ht hd hR hn b (.inBlock id::k) cs hbf hbr;refine ⟨f1,w1,bT,ds1,u1,p1,q1,r1,x1,?_⟩;cases e with
   | normal=>exact Steps.head jH (mg this (.one yE))
   | exit i=>exact absurd hr (fun h=>hne _ _ h)
   | ret=>obtain ⟨todo,t2⟩:=this;exact ⟨todo, .head jH t2⟩
   | panic v=>obtain ⟨todo,t2⟩:=this;exact ⟨todo, .head jH t2⟩
 ·rename_i bo;split at hr
  ·rename_i st1 h1;intro b k cs hbf hbr;obtain ⟨w1,bT,ds1,f2,w2,qN,xx,u2,p,q,r,x2,a1,a2⟩:=two h1 hr b k (.inLoop bo::k) cs hbf hbr;refine ⟨f2,w2,qN,xx,u2,p,q,r,x2,?_⟩;have a3:Steps P (lone (fr b tm ds (.code (.loop bo)::k)) cs w) (lone (fr b bT ds1 (.code bo:: .inLoop bo::k)) cs w1):= .head j3 (mg a1 (.one zB))
   have cut:∀{m:Machine},Steps P (lone (fr b bT ds1 (.code (.loop bo)::k)) cs w1) m→m≠lone (fr b bT ds1 (.code (.loop bo)::k)) cs w1→Steps P (lone (fr b bT ds1 (.code bo:: .inLoop bo::k)) cs w1) m:=by
    rintro m ⟨x,hx⟩ hne;cases x with
    | zero=>simp only [runN] at hx;injection hx with hx;exact absurd hx.symm hne
    | succ x=>
     rw [runN,j3] at hx;exact ⟨x,hx⟩
   have Kc:∀{m:Machine},(m.gs[0]?.map fun g=>g.frame.mode matches .run)≠some true→m≠lone (fr b bT ds1 (.code (.loop bo)::k)) cs w1:=fun h he=>h (by rw [he];simp [lone,fr])
   have ne:∀{t':Array Value} {ds':List Deferred} {k':List Item} {w':World},k'≠ .code (.loop bo)::k→lone (fr b t' ds' k') cs w'≠lone (fr b bT ds1 (.code (.loop bo)::k)) cs w1:=fun hk he=>by
    have:=congrArg (fun m:Machine=>(m.gs[0]?).map (·.frame.todo)) he;simp only [lone,List.getElem?_toArray,C9,jb,fr,ah] at this;exact hk this
   cases e with
   | normal=>exact a3.trans (cut a2 (ne fun h=>by have:=congrArg List.length h;simp at this))
   | exit id=>obtain ⟨todo,t1,t2⟩:=a2;exact ⟨todo,t1,a3.trans (cut t2 (ne fun h=>by simp at h))⟩
   | ret=>obtain ⟨todo,t2⟩:=a2;exact ⟨todo,a3.trans (cut t2 (ne fun h=>by simp at h))⟩
   | panic v=>obtain ⟨todo,t2⟩:=a2;exact ⟨todo,a3.trans (cut t2 (Kc fun h=>by simp [lone,fr] at h))⟩
  ·rename_i hne;intro b k cs hbf hbr;obtain ⟨f1,w1,bT,ds1,u1,p1,q1,r1,x1,this⟩:=hi _ _ _ _ _ _ _ hr hlim f w tm ds R H0 hb ht hd hR hn b (.inLoop bo::k) cs hbf hbr;refine ⟨f1,w1,bT,ds1,u1,p1,q1,r1,x1,?_⟩;cases e with
   | normal=>exact absurd hr (fun h=>hne _ h)
   | exit id=>obtain ⟨todo,t1,t2⟩:=this;exact ⟨todo,by rw [t1];rfl, .head j3 t2⟩
   | ret=>obtain ⟨todo,t2⟩:=this;exact ⟨todo, .head j3 t2⟩
   | panic v=>obtain ⟨todo,t2⟩:=this;exact ⟨todo, .head j3 t2⟩
 ·exact same hr (fun b k cs=>⟨k,rfl, .refl _ _⟩) trivial
 ·exact same hr (fun b k cs=>⟨k, .refl _ _⟩) trivial
 ·rename_i bo;intro b k cs hbf hbr;obtain ⟨f1,w1,bT,ds1,u1,p1,q1,r1,x1,this⟩:=hi _ _ _ _ _ _ _ hr hlim f w tm ds R H0 hb ht hd hR hn b (.inScope bo::k) cs hbf hbr;refine ⟨f1,w1,bT,ds1,u1,p1,q1,r1,x1,?_⟩;cases e with
  | normal=>exact Steps.head kX (mg this (.one x8))
  | panic v=>obtain ⟨todo,t2⟩:=this;exact ⟨todo, .head kX t2⟩
  | exit id=>obtain ⟨todo,t1,t2⟩:=this;exact ⟨todo,by rw [t1];rfl, .head kX t2⟩
  | ret=>obtain ⟨todo,t2⟩:=this;exact ⟨todo, .head kX t2⟩
 ·rename_i id ops draw;split at hr;rename_i t sz h nx d;simp only at hlim H0 hb ht hd hn ⊢;split at hr
  ·split at hr
   ·rename_i e2 t2 h2 gU d2 h1;simp only [ah,ay] at hr;obtain ⟨rfl,rfl⟩:=hr;intro b k cs hbf hbr
    have hro:rd=none→b.roundOf=none:=fun e=>by
     subst e;cases R with
     | none=>exact hbr
     | some _=>exact hR.elim
    obtain ⟨f1,w1,bT,ds1,u1,p1,q1,r1,x1,s1⟩:=nT hgo (fQ hgo hK hi mi (dK hi mi) (bn mi)) (dK hi mi) (fe hK.g mi (bn mi)) (bn mi) ops sz rd _ 0 rfl _ _ _ _ _ _ _ _ _ h1 hlim f w tm ds H0 hb ht hd hn b k cs hro;exact ⟨f1,w1,bT,ds1,u1,p1,q1,r1,x1,jy.steps (.one ug) (by simpa using s1)⟩
   ·cases hr
  ·split at hr
   ·cases hr
   ·rename_i pl hpl;split at hr
    ·rename_i t2 h2 gU h1;simp only [ah,ay] at hr;obtain ⟨rfl,rfl⟩:=hr;intro b k cs hbf hbr;obtain ⟨f1,w1,bT,p1,q1,this⟩:=yM hgo (fQ hgo hK hi mi (dK hi mi) (bn mi)) (fe hK.g mi (bn mi)) hmx hpl h1 hlim H0 hb ht hn (w.tape w.drawn (.order fid id)) b k cs ds;refine ⟨f1,w1,bT,ds,undef,p1,q1,hd.mono p1.le,trivial,?_⟩;rw [← hbf] at this;exact Steps.head Dt this
    ·cases hr
 ·exact rZ hK hgo hi mi hr hlim H0 hb ht hd hR hn
 ·cases hr
theorem DJ (hgo:kF P=true) (hmx:P.follows .mixedOrders=true) {K:ax} (hK:HK P K):∀n,iP P (ev P K n)∧GE (ev P K n)
 | 0=>⟨fun _ _ _ _ _ _ _ h=>(by cases h),fun _ _ _ _ _ _ _ h=>(by cases h)⟩
 | n+1=>by
  obtain ⟨h1,h2⟩:=DJ hgo hmx hK n;exact ⟨uN hgo hmx hK h1 h2,Bo hK.g h2⟩
theorem BO (hgo:kF P=true) (hmx:P.follows .mixedOrders=true) {K:ax} (hK:HK P K) {n nx:Nat} {g:FuncId} {args:List AV} {h:H} {v:AV} {h':H} {nx':Nat} {bb:Bool} (he:dm P K (ev P K n) (bS (ev P K n)) nx g args h nx=some (bb,v,h',nx')) {f:F} {w:World} {us:List Value} (H0:HR f h.get w) (hb:BD h nx) (hu:au f args us) (hn:∀i,nx≤i→f i=none):
  Calls P g us.toArray w fun e w'=>∃u f',e=El bb u∧VR f' v u∧HR f' h'.get w'∧F.le f f'∧RowKit.Below w.heap.size w w'∧BD h' nx'∧(∀i,nx'≤i→f' i=none)∧∀i x,f i=none→f' i=some x→w.heap.size≤x.1:=by
 obtain ⟨h1,h2⟩:=DJ hgo hmx hK n;intro cs;obtain ⟨f',w',u,fr',p,q,s1,s2,s3⟩:=(fQ hgo hK h1 h2 (dK h1 h2) (bn h2) _ _ _ _ _ _ _ _ _ he (aj _) f w us H0 hb hu (fun i a _=>hn i a)).2 cs;refine ⟨El bb u,w',fr',⟨u,f',rfl,q,p.hr,p.le,⟨p.fr.os,p.fr.tape,p.fr.output,p.fr.size,fun k hk=>p.fr.block k hk fun i x hi _=> ?_⟩,hb.next p,fun i hi=> ?_,fun i x a b=> ?_⟩,(by cases bb<;>exact s1),s2,s3⟩
 ·exact absurd (hb i hi.2) (uE.2 hi.1)
 ·have e:f' i=f i:=BU fun e=>by have:=p.new i e;omega
  rw [e];exact hn i (gp p.up hi)
 ·rcases p.old i x a b with h | ⟨j,y,hj,_,_⟩
  ·exact h
  ·exact absurd (hb j hj.2) (uE.2 hj.1)
end
section
open Go
variable {P:Program}
theorem HR.below {f:F} {h:Nat→Option OB} {w w':World} (H0:HR f h w) (hb:RowKit.Below w.heap.size w w'):HR f h w':=
 ⟨fun i ob e=>let ⟨B,s,n,o,h1,h2,h3⟩:=H0.obj i ob e;⟨B,s,n,o,h1,by rw [hb.block B (H0.dom i _ h1)];exact h2,h3⟩,H0.inj,(fun i x hx=>bY (H0.dom i x hx) hb.size),H0.gl⟩
def Made (l:List AV) (h:H) (nx:Nat) (w:World) (us:List Value):Prop:=∃f,HR f h.get w∧au f l us∧BD h nx∧∀i,nx≤i→f i=none
theorem Made.below {l:List AV} {h:H} {nx:Nat} {w w':World} {us:List Value} (m:Made l h nx w us) (hb:RowKit.Below w.heap.size w w'):Made l h nx w' us:=
 let ⟨f,h1,h2,h3,h4⟩:=m;⟨f,h1.below hb,h2,h3,h4⟩
theorem Made.sub {l:List AV} {h h':H} {nx:Nat} {w:World} {us:List Value} (m:Made l h nx w us) (hs:∀i ob,h'.get i=some ob→h.get i=some ob):Made l h' nx w us:=
 let ⟨f,h1,h2,h3,h4⟩:=m;⟨f,h1.sub hs,h2,(fun k hk=>h3 k (by
  cases e:h'.get k with
  | none=>rw [e] at hk;cases hk
  | some ob=>rw [hs k ob e];rfl)),h4⟩
theorem Made.lits {l:List AV} {h:H} {nx:Nat} {w:World} {us:List Value} (m:Made l h nx w us) (vs:List Value):Made (vs.map .lit) h nx w vs:=
 let ⟨f,h1,_,h3,h4⟩:=m;⟨f,h1,au.lits f vs,h3,h4⟩
theorem Made.start {w:World} (hg:gN≤w.heap.size) {nx:Nat} (hn:gN≤nx) (vs:List Value):Made (vs.map .lit) .e nx w vs:=
 ⟨fun i=>if i<gN then some (i,0,0) else none,⟨fun i ob e=>(by cases e),fun i j ob eU x y e=>(by cases e),(fun i x e=>by
  split at e
  ·simp only [ah] at e;subst e;simp only;omega
  ·cases e),fun g h=>⟨0,aF h⟩⟩,au.lits _ vs,fun k hk=>(by cases hk),fun i hi=>av (by omega)⟩
theorem Made.table {w:World} (hg:gN≤w.heap.size) {nx:Nat} (hn:gN≤nx) {g:Nat} (hgg:g<gN) {t:List Value} (h0:0<t.length) (ht:∀j,j<t.length→w.cell? ⟨g,j,none⟩=t[j]?) (vs:List Value):Made (vs.map .lit) (T.set .e g (.tab t)) nx w vs:=by
 have hget:∀i ob,(T.set (.e:H) g (.tab t)).get i=some ob→i=g∧ob= .tab t:=fun i ob e=>by
  rw [T.bO] at e;split at e
  ·exact ⟨by assumption,by simpa using e.symm⟩
  ·cases e
 have hcell:∃C E fr,w.heap[g]?=some (.cells C E fr)∧∀j,j<t.length→C[0+j]?=t[j]?:=by
  have hz:=ht 0 h0;unfold World.cell? at hz;split at hz
  ·rename_i C E fr he;refine ⟨C,E,fr,he,fun j hj=> ?_⟩;have:=ht j hj;unfold World.cell? at this;simp only [he] at this;rw [tJ];simpa using this
  ·rw [dR h0] at hz;cases hz
 obtain ⟨C,E,fr,hc,hC⟩:=hcell
 refine ⟨fun i=>if i<gN then some (i,0,0) else none,⟨fun i ob e=> ?_,fun i j ob eU x y e e' _ _ _=>by rw [(hget i ob e).1,(hget j eU e').1],(fun i x e=>by
  split at e
  ·simp only [ah] at e;subst e;simp only;omega
  ·cases e),fun g h=>⟨0,aF h⟩⟩,au.lits _ vs,fun k hk=> ?_,fun i hi=>av (by omega)⟩
 ·obtain ⟨rfl,rfl⟩:=hget i ob e;exact ⟨i,0,0,_,aF hgg,hc,C,E,fr,rfl,hC⟩
 ·cases e:(T.set (.e:H) g (.tab t)).get k with
  | none=>rw [e] at hk;cases hk
  | some ob=>rw [(hget k ob e).1];omega
theorem kI (hgo:kF P=true) (hmx:P.follows .mixedOrders=true) {K:ax} (hK:HK P K) {n nx:Nat} {g:FuncId} {args:List AV} {h:H} {v:AV} {h':H} {nx':Nat} (he:dm P K (ev P K n) (bS (ev P K n)) nx g args h nx=some (false,v,h',nx')) {w:World} {us:List Value} (m:Made args h nx w us):
  Calls P g us.toArray w fun e w'=>∃u,e= .returned u∧Made [v] h' nx' w' [u]∧RowKit.Below w.heap.size w w':=by
 obtain ⟨f,h1,h2,h3,h4⟩:=m;intro cs;obtain ⟨e,w',fr',⟨u,f',rfl,q1,q2,q3,q4,q5,q6,_⟩,s1,s2,s3⟩:=BO hgo hmx hK he h1 h3 h2 h4 cs;exact ⟨_,w',fr',⟨u,rfl,⟨f',q2, .cons q1 .nil,q5,q6⟩,q4⟩,s1,s2,s3⟩
theorem HK.of {K:ax} (hk:∀lim g args h nx b v h' nx',K lim g args h nx=some (b,v,h',nx')→b=false∧h'=h∧nx'=nx∧(∃fn,P.funcs[g]?=some fn∧fn.body.isSome=true)∧
  ∀(f:F) (w:World) (us:List Value),HR f h.get w→au f args us→Calls P g us.toArray w fun e w'=>∃u,e= .returned u∧VR f v u∧RowKit.Below w.heap.size w w'):HK P K:=by
 refine ⟨fun lim g args h nx b v h' nx' e=> ?_,fun lim g args h nx b v h' nx' e hlim f w us H0 hb hu hn=> ?_,fun lim g args h nx r e=> ?_⟩
 ·obtain ⟨_,rfl,rfl,_⟩:=hk _ _ _ _ _ _ _ _ _ e;exact G.refl _ _
 ·obtain ⟨rfl,rfl,rfl,hfn,hc⟩:=hk _ _ _ _ _ _ _ _ _ e;refine ⟨hfn,fun cs=> ?_⟩;obtain ⟨e',w',fr',⟨u,rfl,hv,hB⟩,s1,s2,s3⟩:=hc f w us H0 hu cs;exact ⟨f,w',u,fr',⟨F.le_refl _,fun _ h=>absurd rfl h,H0.below hB,⟨hB.os,hB.tape,hB.output,hB.size,fun B hB' _=>hB.block B hB'⟩,fun i x h1 h2=>(by rw [h1] at h2;cases h2),aj _,fun k hk=> .inl hk,fun i a b=>absurd b (uE.2 a)⟩,hv,s1,s2,s3⟩
 ·obtain ⟨b,v,h',nx'⟩:=r;exact (hk _ _ _ _ _ _ _ _ _ e).2.2.2.1
end
section
open Go
variable {P:Program}
def Hw:Value→Value→Bool
 | .int k x, .int j y=>sameKind k j && kT x y
 | _,_=>false
theorem Fj {a b:Value} (h:Hw a b=true):a=b:=by
 unfold Hw at h;split at h
 ·rw [aX] at h;rw [dS h.1];have:=h.2;rw [gX] at this;congr 1;simpa using this
 ·cases h
def jm:List Value→List Value→Bool
 | [],[]=>true
 | a::l,v::vs=>Hw a v && jm l vs
 | _,_=>false
theorem qI:∀{l vs:List Value},jm l vs=true→l=vs
 | [],[],_=>rfl
 | a::l,v::vs,h=>by
  unfold jm at h;rw [aX] at h;rw [Fj h.1,qI h.2]
 | [],_::_,h=>by simp [jm] at h
 | _::_,[],h=>by simp [jm] at h
def CF (K L:ax):ax:=fun lim g args h nx=>match K lim g args h nx with
 | some r=>some r
 | none=>L lim g args h nx
theorem HK.or {K L:ax} (hK:HK P K) (hL:HK P L):HK P (CF K L):=by
 refine ⟨fun lim g args h nx b v h' nx' e=> ?_,fun lim g args h nx b v h' nx' e=> ?_,fun lim g args h nx r e=> ?_⟩<;>unfold CF at e<;>split at e
 ·rename_i hk;rw [e] at hk;exact hK.g _ _ _ _ _ _ _ _ _ hk
 ·exact hL.g _ _ _ _ _ _ _ _ _ e
 ·rename_i hk;rw [e] at hk;exact hK.s _ _ _ _ _ _ _ _ _ hk
 ·exact hL.s _ _ _ _ _ _ _ _ _ e
 ·rename_i hk;exact hK.b _ _ _ _ _ _ hk
 ·exact hL.b _ _ _ _ _ _ e
end
section
open Go
variable {P:Program}
end
section
open Go
variable {P:Program}
abbrev Ph:=List (Nat×Nat)
def iZ (i:Nat):Ph→Option Nat
 | []=>none
 | (a,b)::l=>match Nat.beq a i with
  | true=>some b
  | false=>iZ i l
mutual
def GG:AV→AV→Ph
 | .ptr b _, .ptr c _=>[(b,c)]
 | .slc b _ _ _, .slc c _ _ _=>[(b,c)]
 | .aY b _ _ _, .aY c _ _ _=>[(b,c)]
 | .agg l, .agg m=>vS l m
 | _,_=>[]
def vS:List AV→List AV→Ph
 | a::l,b::m=>GG a b++vS l m
 | _,_=>[]
end
noncomputable def oN (hP h:H):Nat→Ph→Ph→Ph
 | 0,_,d=>d
 | _+1,[],d=>d
 | n+1,(i,j)::t,d=>match iZ i d with
  | some _=>oN hP h n t d
  | none=>match hP.get i,h.get j with
   | some (.cells _ _ _ c),some (.cells _ _ _ c')=>oN hP h n (vS c c'++t) ((i,j)::d)
   | _,_=>oN hP h n t ((i,j)::d)
def FD:Value→Value→Bool
 | .int k x, .int j y=>sameKind k j && kT x y
 | .bool x, .bool y=>match x,y with | true,true=>true | false,false=>true | _,_=>false
 | .string x, .string y=>x==y
 | .slice none 0 0, .slice none 0 0=>true
 | .pointer none, .pointer none=>true
 | _,_=>false
theorem z8 {a b:Value} (h:FD a b=true):a=b:=by
 unfold FD at h;split at h
 ·rw [aX] at h;rw [dS h.1];have:=h.2;rw [gX] at this;congr 1;simpa using this
 ·split at h
  ·rfl
  ·rfl
  ·cases h
 ·rw [(MapKept.bytes_beq _ _).1 h]
 ·rfl
 ·rfl
 ·cases h
def toB (φ:Ph) (i j:Nat):Bool:=match iZ i φ with
 | some k=>Nat.beq k j
 | none=>false
mutual
def pR (φ:Ph):AV→AV→Bool
 | .lit v, .lit u=>FD v u
 | .ptr i o, .ptr j p=>toB φ i j && Nat.beq o p
 | .slc i o l c, .slc j p m d=>toB φ i j && (Nat.beq o p && (Nat.beq l m && Nat.beq c d))
 | .aY i o l c, .aY j p m d=>toB φ i j && (Nat.beq o p && (Nat.beq l m && Nat.beq c d))
 | .agg l, .agg m=>jq φ l m
 | _,_=>false
def jq (φ:Ph):List AV→List AV→Bool
 | [],[]=>true
 | a::l,b::m=>pR φ a b && jq φ l m
 | _,_=>false
end
def o5 (φ:Ph) (f:F):F:=fun i=>match iZ i φ with
 | some j=>f j
 | none=>if i<gN then f i else none
theorem Et {φ:Ph} {i j:Nat} (h:toB φ i j=true):iZ i φ=some j:=by
 unfold toB at h;split at h
 ·rename_i k e;rw [e,bQ h]
 ·cases h
theorem wY {φ:Ph} {f:F} {i j:Nat} (h:toB φ i j=true):o5 φ f i=f j:=by
 unfold o5;rw [Et h]
mutual
theorem Fe {φ:Ph} {f:F}:∀{a b:AV} {u:Value},pR φ a b=true→VR f b u→VR (o5 φ f) a u
 | .lit _, .lit _,_,h, .lit _=>by
  unfold pR at h;rw [← z8 h];exact .lit _
 | .ptr .., .ptr ..,_,h, .ptr hf=>by
  unfold pR at h;rw [aX] at h;obtain rfl:=bQ h.2;exact .ptr (by rw [wY h.1];exact hf)
 | .slc .., .slc ..,_,h, .slc hf=>by
  unfold pR at h;simp only [aX] at h;obtain rfl:=bQ h.2.1;obtain rfl:=bQ h.2.2.1;obtain rfl:=bQ h.2.2.2;exact .slc (by rw [wY h.1];exact hf)
 | .aY .., .aY ..,_,h, .aY hf h1 h2 h3=>by
  unfold pR at h;simp only [aX] at h;obtain rfl:=bQ h.2.1;obtain rfl:=bQ h.2.2.1;obtain rfl:=bQ h.2.2.2;exact .aY (by rw [wY h.1];exact hf) h1 h2 h3
 | .agg _, .agg _,_,h, .agg hs=>by
  unfold pR at h;exact .agg (nP h hs)
 | .lit _, .ptr ..,_,h,_ | .lit _, .slc ..,_,h,_ | .lit _, .aY ..,_,h,_ | .lit _, .agg ..,_,h,_ | .lit _, .dF ..,_,h,_ | .lit _, .fn ..,_,h,_ | .lit _, .ji ..,_,h,_ | .lit _, .map ..,_,h,_ | .lit _, .gy ..,_,h,_ | .lit _, .any,_,h,_ | .lit _, .res ..,_,h,_=>by simp [pR] at h
 | .ptr .., .lit _,_,h,_ | .ptr .., .slc ..,_,h,_ | .ptr .., .aY ..,_,h,_ | .ptr .., .agg ..,_,h,_ | .ptr .., .dF ..,_,h,_ | .ptr .., .fn ..,_,h,_ | .ptr .., .ji ..,_,h,_ | .ptr .., .map ..,_,h,_ | .ptr .., .gy ..,_,h,_ | .ptr .., .any,_,h,_ | .ptr .., .res ..,_,h,_=>by simp [pR] at h
 | .slc .., .lit _,_,h,_ | .slc .., .ptr ..,_,h,_ | .slc .., .aY ..,_,h,_ | .slc .., .agg ..,_,h,_ | .slc .., .dF ..,_,h,_ | .slc .., .fn ..,_,h,_ | .slc .., .ji ..,_,h,_ | .slc .., .map ..,_,h,_ | .slc .., .gy ..,_,h,_ | .slc .., .any,_,h,_ | .slc .., .res ..,_,h,_=>by simp [pR] at h
 | .aY .., .lit _,_,h,_ | .aY .., .ptr ..,_,h,_ | .aY .., .slc ..,_,h,_ | .aY .., .agg ..,_,h,_ | .aY .., .dF ..,_,h,_ | .aY .., .fn ..,_,h,_ | .aY .., .ji ..,_,h,_ | .aY .., .map ..,_,h,_ | .aY .., .gy ..,_,h,_ | .aY .., .any,_,h,_ | .aY .., .res ..,_,h,_=>by simp [pR] at h
 | .agg .., .lit _,_,h,_ | .agg .., .ptr ..,_,h,_ | .agg .., .slc ..,_,h,_ | .agg .., .aY ..,_,h,_ | .agg .., .dF ..,_,h,_ | .agg .., .fn ..,_,h,_ | .agg .., .ji ..,_,h,_ | .agg .., .map ..,_,h,_ | .agg .., .gy ..,_,h,_ | .agg .., .any,_,h,_ | .agg .., .res ..,_,h,_=>by simp [pR] at h
 | .dF ..,_,_,h,_ | .fn ..,_,_,h,_ | .ji ..,_,_,h,_ | .map ..,_,_,h,_ | .gy ..,_,_,h,_ | .any,_,_,h,_ | .res ..,_,_,h,_=>by simp [pR] at h
theorem nP {φ:Ph} {f:F}:∀{l m:List AV} {us:List Value},jq φ l m=true→au f m us→au (o5 φ f) l us
 | [],[],_,_, .nil=> .nil
 | _::_,_::_,_,h, .cons hx hs=>by
  unfold jq at h;rw [aX] at h;exact .cons (Fe h.1 hx) (nP h.2 hs)
 | [],_::_,_,h,_=>by simp [jq] at h
 | _::_,[],_,h,_=>by simp [jq] at h
end
theorem vH {φ:Ph}:∀{l m:List AV},jq φ l m=true→l.length=m.length
 | [],[],_=>rfl
 | _::_,_::_,h=>by
  unfold jq at h;rw [aX] at h;simp [vH h.2]
 | [],_::_,h=>by simp [jq] at h
 | _::_,[],h=>by simp [jq] at h
def zZ (φ:Ph):Option OB→Option OB→Bool
 | some (.cells n ex e l),some (.cells m fx d k)=>(!ex || fx) && (Nat.beq n m && (Nat.beq e d && jq φ l k))
 | some (.tab l),some (.tab k)=>jm l k
 | _,_=>false
theorem Cz {φ:Ph} {f:F} {a b:Option OB} (h:zZ φ a b=true):∃x y,a=some x∧b=some y∧∀s n o,uw f s n y o→uw (o5 φ f) s n x o:=by
 unfold zZ at h;split at h
 ·rename_i n ex e l m fx d k;simp only [aX,Dp,Ba] at h;obtain ⟨h1,h2,h3,h4⟩:=h;obtain rfl:=bQ h2;obtain rfl:=bQ h3;refine ⟨_,_,rfl,rfl,fun s N o ⟨C,E,fr,a1,a2,a3,a4,a5,a6,a7,a8⟩=>⟨C,E,fr,a1,a2,(by rw [vH h4,a3]),a4,a5,nP h4 a6,a7,fun he=>a8 ?_⟩⟩;rcases h1 with h1 | h1
  ·rw [he] at h1;cases h1
  ·exact h1
 ·rename_i l k;rw [qI h];exact ⟨_,_,rfl,rfl,fun s n o h=>h⟩
 ·cases h
def wN:List Nat→Bool
 | []=>true
 | a::l=> !(l.any fun b=>Nat.beq a b) && wN l
def xY (φ:Ph):Bool:=wN (φ.map (·.2)) && φ.all fun p=>(Nat.ble gN p.1 || Nat.beq p.1 p.2) && Nat.ble p.1 29999
theorem iB {i j:Nat}:∀{φ:Ph},iZ i φ=some j→(i,j)∈φ
 | [],h=>by cases h
 | (a,b)::l,h=>by
  unfold iZ at h;split at h
  ·rename_i e;obtain rfl:=bQ e;cases h;exact .head _
  ·exact .tail _ (iB h)
theorem rJ {i k j:Nat}:∀{φ:Ph},wN (φ.map (·.2))=true→(i,j)∈φ→(k,j)∈φ→i=k
 | [],_,h,_=>by cases h
 | (a,b)::l,hd,h1,h2=>by
  simp only [uL,wN,aX,Ba,zT] at hd
  have no:∀x,(x,b)∈l→False:=fun x hx=>by
   have:=hd.1 b (zM.2 ⟨_,hx,rfl⟩);exact this (Cf b)
  rcases uW.1 h1 with e1 | k1<;>rcases uW.1 h2 with e2 | k2
  ·cases e1;cases e2;rfl
  ·cases e1;exact (no _ k2).elim
  ·cases e2;exact (no _ k1).elim
  ·exact rJ hd.2 k1 k2
noncomputable def stands (φ:Ph) (hP h:H):List Nat→Bool
 | []=>true
 | i::l=>(match iZ i φ with
  | some j=>zZ φ (hP.get i) (h.get j)
  | none=>false) && stands φ hP h l
theorem sS {φ:Ph} {hP h:H}:∀{L:List Nat},stands φ hP h L=true→∀i∈L,∃j,iZ i φ=some j∧zZ φ (hP.get i) (h.get j)=true
 | [],_,_,hi=>by cases hi
 | k::l,hs,i,hi=>by
  unfold stands at hs;rw [aX] at hs;rcases uW.1 hi with e | hi
  ·subst e;have h1:=hs.1;split at h1
   ·rename_i j e;exact ⟨j,e,h1⟩
   ·cases h1
  ·exact sS hs.2 i hi
theorem HR.rename {φ:Ph} {hP h:H} {f:F} {w:World} {L:List Nat} (H0:HR f h.get w) (hk:xY φ=true) (hs:stands φ hP h L=true):HR (o5 φ f) (bC hP .e L).get w:=by
 unfold xY at hk;rw [aX,oL] at hk
 have get:∀i ob,(bC hP .e L).get i=some ob→∃j eU,iZ i φ=some j∧h.get j=some eU∧∀s n o,uw f s n eU o→uw (o5 φ f) s n ob o:=fun i ob e=>by
  rw [aK] at e;split at e
  ·rename_i hi;obtain ⟨j,h1,h2⟩:=sS hs i hi;obtain ⟨x,y,h3,h4,h5⟩:=Cz (f:=f) h2;rw [h3] at e;cases e;exact ⟨j,y,h1,h4,h5⟩
  ·cases e
 refine ⟨fun i ob e=> ?_,fun i k ob eU x y e e' hx hy hxy=> ?_,fun i x e=> ?_,fun g hg=> ?_⟩
 ·obtain ⟨j,eU,h1,h2,h3⟩:=get i ob e;obtain ⟨B,s,n,o,q1,q2,q3⟩:=H0.obj j eU h2;exact ⟨B,s,n,o,by unfold o5;rw [h1];exact q1,q2,h3 s n o q3⟩
 ·obtain ⟨j,oj,h1,h2,_⟩:=get i ob e;obtain ⟨l,ol,h3,h4,_⟩:=get k eU e';unfold o5 at hx hy;rw [h1] at hx;rw [h3] at hy;have:=H0.inj j l oj ol x y h2 h4 hx hy hxy;subst this;exact rJ hk.1 (iB h1) (iB h3)
 ·unfold o5 at e;split at e
  ·exact H0.dom _ _ e
  ·split at e
   ·exact H0.dom _ _ e
   ·cases e
 ·obtain ⟨n,e⟩:=H0.gl g hg;refine ⟨n,?_⟩;unfold o5;split
  ·rename_i j hj;have:=hk.2 _ (iB hj);simp only [Dp,aX] at this;rcases this.1 with h | h
   ·have:=cO h;omega
   ·have:=bQ h;subst this;exact e
  ·rw [aF hg];exact e
mutual
def weak:AV→AV→Bool
 | .lit v, .lit u=>FD v u
 | .lit (.int ..), .any=>true
 | .lit (.bool _), .any=>true
 | .lit (.slice ..), .any=>true
 | .slc .., .any=>true
 | .aY .., .any=>true
 | .ptr .., .any=>true
 | .agg l, .agg m=>kK l m
 | .dF l, .dF m=>kK l m
 | _,_=>false
def kK:List AV→List AV→Bool
 | [],[]=>true
 | a::l,b::m=>weak a b && kK l m
 | _,_=>false
end
mutual
theorem xJ {f g:F}:∀(a:AV) {b:AV} {u:Value},weak a b=true→VR f a u→VR g b u
 | .lit v,b,u,h,hv=>by
  cases hv;unfold weak at h;split at h
  ·rename_i e1;cases e1;have:=z8 h;subst this;exact .lit _
  ·rename_i e1;cases e1;exact .any rfl
  ·rename_i e1;cases e1;exact .any rfl
  ·rename_i e1;cases e1;exact .any rfl
  all_goals first | (rename_i e1 _;cases e1;done) | (rename_i e1;cases e1;done) | (cases h;done)
 | .agg l,b,u,h,hv=>by
  cases hv with
  | agg hs=>
   unfold weak at h;split at h
   all_goals first | (rename_i e1 _;cases e1;exact .agg (jI _ h hs)) | (rename_i e1;cases e1;exact .agg (jI _ h hs)) | (rename_i e1 _;cases e1;done) | (rename_i e1;cases e1;done) | (cases h;done)
 | .dF l,b,u,h,hv=>by
  cases hv with
  | dF hs=>
   unfold weak at h;split at h
   all_goals first | (rename_i e1 _;cases e1;exact .dF (jI _ h hs)) | (rename_i e1;cases e1;exact .dF (jI _ h hs)) | (rename_i e1 _;cases e1;done) | (rename_i e1;cases e1;done) | (cases h;done)
 | .slc ..,b,u,h,hv=>by
  cases hv;unfold weak at h;split at h
  all_goals first | exact .any rfl | (rename_i e1 _;cases e1;done) | (rename_i e1;cases e1;done) | (cases h;done)
 | .aY ..,b,u,h,hv=>by
  cases hv;unfold weak at h;split at h
  all_goals first | exact .any rfl | (rename_i e1 _;cases e1;done) | (rename_i e1;cases e1;done) | (cases h;done)
 | .ptr ..,b,u,h,hv=>by
  cases hv;unfold weak at h;split at h
  all_goals first | exact .any rfl | (rename_i e1 _;cases e1;done) | (rename_i e1;cases e1;done) | (cases h;done)
 | .fn ..,_,_,h,_ | .ji ..,_,_,h,_ | .map ..,_,_,h,_ | .gy ..,_,_,h,_ | .any,_,_,h,_ | .res ..,_,_,h,_=>by simp [weak] at h
theorem jI {f g:F}:∀(l:List AV) {m:List AV} {us:List Value},kK l m=true→au f l us→au g m us
 | [],[],_,_, .nil=> .nil
 | a::l,b::m,_,h, .cons hx hs=>by
  unfold kK at h;rw [aX] at h;exact .cons (xJ a h.1 hx) (jI l h.2 hs)
 | [],_::_,_,h,_=>by simp [kK] at h
 | _::_,[],_,h,_=>by simp [kK] at h
end
def wP (r:Option (Bool×AV×H×Nat)) (v:AV):Bool:=match r with
 | some (false,u,_,_)=>weak u v
 | _=>false
noncomputable def I5 (hP h:H) (iF args:List AV):Ph:=oN hP h 400 (fu gN 0 |>.map fun g=>(g,g)) [] |>fun d=>oN hP h 400 (vS iF args) d
noncomputable def sD (fid:FuncId) (iF:List AV) (hP:H) (L:List Nat) (res:AV):ax:=fun _ g args h nx=>match Nat.beq g fid with
 | false=>none
 | true=>match I5 hP h iF args with
  | φ=>bZ (xY φ && (jq φ iF args && (Nat.ble nx 30000 && stands φ hP h L))) (some (false,res,h,nx))
theorem vE (hgo:kF P=true) (hmx:P.follows .mixedOrders=true) {K:ax} (hK:HK P K) {n:Nat} {fid:FuncId} {iF:List AV} {hP:H} {L:List Nat} {res:AV} (hfn:∃fn,P.funcs[fid]?=some fn∧fn.body.isSome=true)
  (hL:L.all (fun i=>Nat.ble i 29999)=true) (he:wP (dm P K (ev P K n) (bS (ev P K n)) 30000 fid iF (bC hP .e L) 30000) res=true):HK P (sD fid iF hP L res):=by
 have key:∀{lim g args h nx b v h' nx'},sD fid iF hP L res lim g args h nx=some (b,v,h',nx')→g=fid∧b=false∧v=res∧h'=h∧nx'=nx∧nx≤30000∧∃φ,xY φ=true∧jq φ iF args=true∧stands φ hP h L=true:=fun {lim g args h nx b v h' nx'} e=>by
  unfold sD at e;split at e
  ·cases e
  ·rename_i hg;obtain ⟨h1,h2⟩:=ak e;simp only [aX] at h1;cases h2;exact ⟨bQ hg,rfl,rfl,rfl,rfl,cO h1.2.2.1,_,h1.1,h1.2.1,h1.2.2.2⟩
 obtain ⟨u0,h1,n1,he1,hw⟩:∃u0 h1 n1,dm P K (ev P K n) (bS (ev P K n)) 30000 fid iF (bC hP .e L) 30000=some (false,u0,h1,n1)∧weak u0 res=true:=by
  unfold wP at he;split at he
  ·rename_i e;exact ⟨_,_,_,e,he⟩
  ·cases he
 rw [oL] at hL;refine ⟨fun lim g args h nx b v h' nx' e=> ?_,fun lim g args h nx b v h' nx' e hlim f w us H0 hb hu hn=> ?_,fun lim g args h nx r e=> ?_⟩
 ·obtain ⟨_,_,_,rfl,rfl,_⟩:=key e;exact G.refl _ _
 ·obtain ⟨rfl,rfl,rfl,rfl,rfl,hnx,φ,k1,k2,k3⟩:=key e;have H1:=H0.rename k1 k3
  have hbd:BD (bC hP .e L) 30000:=fun k hk=>by
   cases e:(bC hP .e L).get k with
   | none=>rw [e] at hk;cases hk
   | some ob=>
    rw [aK] at e;split at e
    ·rename_i hi;have:=cO (hL k hi);omega
    ·cases e
  have hno:∀i,30000≤i→o5 φ f i=none:=fun i hi=>by
   unfold o5;split
   ·rename_i j hj;unfold xY at k1;rw [aX,oL] at k1;have:=k1.2 _ (iB hj);simp only [aX] at this;have:=cO this.2;omega
   ·have h9:gN≤30000:=by decide
    rw [av (by omega)]
  have m:Made iF (bC hP .e L) 30000 w us:=⟨_,H1,nP k2 hu,hbd,hno⟩
  refine ⟨hfn,fun cs=> ?_⟩;obtain ⟨e',w',fr',⟨u,rfl,⟨f2,_,q5,_⟩,hB⟩,s1,s2,s3⟩:=kI hgo hmx hK he1 m cs;cases q5 with
  | cons hx _=>exact ⟨f,w',u,fr',⟨F.le_refl _,fun _ h=>absurd rfl h,H0.below hB,⟨hB.os,hB.tape,hB.output,hB.size,fun B hB' _=>hB.block B hB'⟩,fun i x h1 h2=>(by rw [h1] at h2;cases h2),aj _,fun k hk=> .inl hk,fun i a b=>absurd b (uE.2 a)⟩,xJ _ hw hx,s1,s2,s3⟩
 ·obtain ⟨b,v,h',nx'⟩:=r;obtain ⟨rfl,_⟩:=key e;exact hfn
end
end Ev
namespace Ev
section
open Go
variable {f:F} {w:World}
theorem qB {h:H} (H0:HR f h.get w) {b o m:Nat} {l:List AV} (hc:iG h b o m=some l) {B s N:Nat} (hf:f b=some (B,s,N)):∃us,au f l us∧us.length=m∧∀j,j<m→w.cell? ⟨B,s+o+j,none⟩=us[j]?:=by
 unfold iG at hc;split at hc
 ·rename_i k ex el c hb;obtain ⟨hle,rfl⟩:=aR hc;have hle:=cO hle;obtain ⟨B',s',N',C,fr,h1,h2,h3,h4,h5,h6,_⟩:=H0.cells hb;rw [hf] at h1;simp only [ah,ay] at h1;obtain ⟨rfl,rfl,rfl⟩:=h1;refine ⟨_,h6.sub o m,by simp;omega,fun j hj=> ?_⟩;rw [iN h2,nA hj,nE,nA (by omega),nE];simp [oD]
 ·rename_i t hb;obtain ⟨hle,rfl⟩:=aR hc;have hle:=cO hle;obtain ⟨B',s',N',o',h1,h2,C,E,fr,rfl,h3⟩:=H0.obj b _ hb;rw [hf] at h1;simp only [ah,ay] at h1;obtain ⟨rfl,rfl,rfl⟩:=h1;refine ⟨_,au.lits f _,by simp;omega,fun j hj=> ?_⟩;rw [iN h2,nA hj,nE,oD];exact h3 _ (by omega)
 ·cases hc
def Du:AV→Bool
 | .slc _ _ l c=>Nat.ble l c
 | .aY _ _ _ _=>true
 | .lit (.slice none 0 0)=>true
 | _=>false
theorem wm {h:H} (H0:HR f h.get w) {x:AV} {u:Value} (hx:VR f x u) (hs:Du x=true) {z:Nat} {l:List AV} (hc:cellsOf h z x=some l):∃n,qF x=some n∧((n=0∧l=[]∧∃p,u= .slice p 0 0∧(p=none∨∃B off,p=some ⟨B,off,none⟩))∨∃B off cap us,u= .slice (some ⟨B,off,none⟩) n cap∧n≤cap∧B<w.heap.size∧au f l us∧us.length=n * z∧∀j,j<n * z→w.cell? ⟨B,off+j,none⟩=us[j]?):=by
 cases x with
 | slc b o n c=>
  have hs:=cO (show Nat.ble n c=true from hs);cases hx with
  | slc hf=>
   rename_i B s N;refine ⟨n,rfl, .inr ?_⟩;unfold cellsOf at hc;simp only at hc;split at hc
   ·rename_i hz;have hz:=bQ hz;cases hc;exact ⟨B,s+o,c,[],rfl,hs,H0.dom _ _ hf, .nil,by simp [hz],fun j hj=>by omega⟩
   ·obtain ⟨us,h1,h2,h3⟩:=qB H0 hc hf;exact ⟨B,s+o,c,us,rfl,hs,H0.dom _ _ hf,h1,h2,h3⟩
 | aY b o n es=>
  cases hx with
  | aY hf hlc ho hn=>
   rename_i c off B s N;unfold cellsOf at hc;simp only at hc;split at hc
   ·rename_i hz;have hz:=bQ hz;cases hc;by_cases h0:c=0
    ·subst h0;obtain rfl:n=0:=by omega
     exact ⟨0,rfl, .inl ⟨rfl,rfl,_,rfl, .inr ⟨_,_,rfl⟩⟩⟩
    ·exact ⟨n,rfl, .inr ⟨B,off,c,[],rfl,hlc,H0.dom _ _ hf, .nil,by simp [hz],fun j hj=>by omega⟩⟩
   ·obtain ⟨us,h1,h2,h3⟩:=qB H0 hc hf;by_cases h0:c=0
    ·subst h0;obtain rfl:n=0:=by omega
     refine ⟨0,rfl, .inl ⟨rfl,?_,_,rfl, .inr ⟨_,_,rfl⟩⟩⟩;have:us=[]:=tQ.1 (by omega);subst this;cases h1;rfl
    ·refine ⟨n,rfl, .inr ⟨B,off,c,us,rfl,hlc,H0.dom _ _ hf,h1,h2,fun j hj=> ?_⟩⟩;rw [ho (by omega)];exact h3 j hj
 | lit v=>
  unfold Du at hs;split at hs
  ·rename_i e;cases e
  ·rename_i e;cases e
  ·rename_i e;cases e;cases hx;cases hc;exact ⟨0,rfl, .inl ⟨rfl,rfl,_,rfl, .inl rfl⟩⟩
  ·cases hs
 | _=>cases hs
end
end Ev
end Go.Proofs.YtngjelolnfgnbaaGreatDoor
