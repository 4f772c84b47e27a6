/- Part of a proof. -/
import Derived.Laws.StructEq
import Derived.ChangeKeysEq
import Derived.Test.YtncnfncglacheaaGreatDoorMIndex
import Derived.Great.Walk
import Derived.WalkMore
set_option linter.all false
set_option maxRecDepth 100000
set_option maxHeartbeats 64000000
namespace Go.Proofs.YtncnfncglacheaaGreatDoor
section
open Go Go.RowKit Mem
abbrev vW:=Np (Rd nV)
theorem vW.below' {w w':World} {v:Value} {l:List (List Nat)} (h:vW w v l) (hb:Below w.heap.size w w'):vW w' v l:=Np.below h hb fun _ _ h=>h.below hb
def dm (w:World) (v:Value) (D:DF):Prop:=∃vc vn va,v= .agg #[vc,vn,va]∧nZ 4 aG w vc D.cls∧vW w vn D.nx∧Rd Value.bool w va D.ac
theorem dm.below {w w':World} {v:Value} {D:DF} (h:dm w v D) (hb:Below w.heap.size w w'):dm w' v D:=by
 obtain ⟨vc,vn,va,rfl,h1,h2,h3⟩:=h;exact ⟨vc,vn,va,rfl,h1.below hb,vW.below' h2 hb,h3.below hb⟩
theorem Vf (w:World) (c:Cl) (i:Nat) (x:Value) (h:(au c)[i]?=some x):(part 63 (au c) i).run Tryz.prog w= .ok x w:=by
 simp [part,h]
theorem H8 (w:World) (x y:Cl) (i:Nat) (is:List Nat) (a b:Int) (hx:(au x)[i]?=some (.int .u64 a)) (hy:(au y)[i]?=some (.int .u64 b)):
  (Op.eqItems 9999 63 1 (au x) (au y) (i::is)).run Tryz.prog w=if (a==b)=true then (Op.eqItems 9999 63 1 (au x) (au y) is).run Tryz.prog w else .ok false w:=by
 have e:=run_equalIn_int (P:=Tryz.prog) w 9998 63 .u64 .u64 a b Tryz.underlying63;rw [Op.eqItems];cases hab:a==b<;>simp [dS,Vf w x i _ hx,Vf w y i _ hy,e,hab]
theorem EU (w:World) (x y:Cl):(Op.equalIn 10000 65 (.agg (au x)) (.agg (au y))).run Tryz.prog w= .ok (X x.a==X y.a && (X x.b==X y.b && (X x.c==X y.c && X x.d==X y.d))) w:=by
 rw [run_equalIn_array w 9999 (au x) (au y) Tryz.underlying65 (i:=(Tryz.prog.info? 63).get (by kernel_rfl)) (by kernel_rfl)];rw [show List.range 4=[0,1,2,3] from rfl,show Tryz.prog.cellsOf 63=1 by kernel_rfl];rw [H8 w x y 0 _ (X x.a) (X y.a) rfl rfl,H8 w x y 1 _ (X x.b) (X y.b) rfl rfl,H8 w x y 2 _ (X x.c) (X y.c) rfl rfl,H8 w x y 3 _ (X x.d) (X y.d) rfl rfl];cases (X x.a==X y.a)<;>cases (X x.b==X y.b)<;>cases (X x.c==X y.c)<;>cases (X x.d==X y.d)<;>rfl
theorem QY (w:World) (x y:Cl) (h:x≠y):(binOp .eql 65 (.agg (au x)) (.agg (au y))).run Tryz.prog w= .ok (.bool false) w:=by
 rw [run_eql_struct,EU]
 have:(X x.a==X y.a && (X x.b==X y.b && (X x.c==X y.c && X x.d==X y.d)))=false:=by
  rw [Bool.eq_false_iff];intro he;simp only [cB,beq_iff_eq] at he;obtain ⟨h1,h2,h3,h4⟩:=he;apply h;obtain ⟨a,b,c,d⟩:=x;obtain ⟨a',b',c',d'⟩:=y;cases rJ h1;cases rJ h2;cases rJ h3;cases rJ h4;rfl
 rw [this];rfl
theorem YL (w:World) (x y:Cl) (h:x≠y):(binOp .neq 65 (.agg (au x)) (.agg (au y))).run Tryz.prog w= .ok (.bool true) w:=by
 have h1:=QY w x y h;rw [run_eql_struct,EU] at h1;rw [run_neq_struct,EU];injection h1 with h2 _
 injection h2 with h2
 simp [Result.andThen,h2]
theorem ab8 (w:World) (x:Cl) (h:x≠bV):(Op.equalIn 10000 65 (.agg (au x)) (.agg #[.int .u64 0, .int .u64 0, .int .u64 0, .int .u64 0])).run Tryz.prog w= .ok false w:=by
 have h1:=QY w x bV h;rw [run_eql_struct,EU] at h1;injection h1 with h2 _
 injection h2 with h2
 have h3:=EU w x bV;rw [h2] at h3;exact h3
theorem QL (w:World):(Op.equalIn 10000 65 (.agg (au bV)) (.agg #[.int .u64 0, .int .u64 0, .int .u64 0, .int .u64 0])).run Tryz.prog w= .ok true w:=by
 have h3:=EU w bV bV;simp only [beq_self_eq_true,Bool.and_self] at h3;exact h3
theorem QD:Tryz.prog.eqGuardType Tryz.prog.depth 65=false:=by kernel_rfl
def kG (l:List Cl) (k:Nat):Cl:=(l.take k).foldl Cl.union bV
structure DF.V (D:DF):Prop extends DF.Ok D where
 n64:D.nx.length≤64
 ne:∀c∈D.cls,c≠bV
 dj:∀k (h:k<D.cls.length),(kG D.cls k).inter D.cls[k]=bV
 un:(kG D.cls D.cls.length).non=bV
theorem Qm (c:Cl) (i:Nat) (hi:i<256):c.non.mem i= !c.mem i:=by
 have h:∀x:UInt64,∀r,r<64→(~~~x).toNat.testBit r= !x.toNat.testBit r:=fun x r hr=>by
  rw [UInt64.toNat_not];rw [show UInt64.size - 1 - x.toNat=2 ^ 64 - (x.toNat+1) by simp [UInt64.size]];rw [Nat.testBit_two_pow_sub_succ (by have:=lI x;simpa using this)];simp [hr]
 unfold Cl.mem;have hr:=Qv i (show 64>0 by omega);have hq:i / 64<4:=by omega
 generalize i % 64=r at *;generalize i / 64=q at *
 match q,hq with
 | 0,_=>exact h c.a r hr
 | 1,_=>exact h c.b r hr
 | 2,_=>exact h c.c r hr
 | 3,_=>exact h c.d r hr
structure MS.Part (T:TB) (k:Nat) (st:MS):Prop where
 pos:∀b,b<k→0≤st.of.getD (T.cell.getD b 0) 0
 mem:∀i,i<st.cls.length→∀b,b<256→(st.cls.getD i bV).mem b=(decide (b<k) && decide (st.of.getD (T.cell.getD b 0) 0=(i:Int)))
 hit:∀i,i<st.cls.length→∃b,b<k∧st.of.getD (T.cell.getD b 0) 0=(i:Int)
theorem GG {α:Type} (l m:List α) (i:Nat) (d:α) (h:i<l.length):(l++m).getD i d=l.getD i d:=by
 rw [dJ,Jl h,dJ]
theorem SG {α:Type} (l:List α) (x d:α):(l++[x]).getD l.length d=x:=by
 rw [dJ,JV (af _),D7];rfl
theorem Bl {T:TB} (h:T.Ok) (block az:List Nat):∀k,k≤256→(iG T block az k).Part T k
 | 0,_=>⟨fun b hb=>by omega,fun i hi=>by simp [iG,ms0] at hi,fun i hi=>by simp [iG,ms0] at hi⟩
 | k+1,hk=>by
  have hk':k<256:=by omega
  have ho:=lN h block az k (by omega);have hp:=Bl h block az k (by omega);have hck:=kX h k hk';have ⟨fo,f0⟩:=yU ho T.nx block az hck;show (yG (jG T.nx block az (iG T block az k) (T.cell.getD k 0)) (T.cell.getD k 0) k).Part T (k+1);generalize iG T block az k=st at *;generalize hc:T.cell.getD k 0=c at *;have hcl:c<st.of.length:=by rw [ho.ol];exact hck
  have hm:(∀b,b<k→(jG T.nx block az st c).of.getD (T.cell.getD b 0) 0=st.of.getD (T.cell.getD b 0) 0)∧st.cls.length≤(jG T.nx block az st c).cls.length∧(∀i,i<st.cls.length→(jG T.nx block az st c).cls.getD i bV=st.cls.getD i bV)∧
    (∀i,st.cls.length≤i→i<(jG T.nx block az st c).cls.length→(jG T.nx block az st c).cls.getD i bV=bV∧(jG T.nx block az st c).of.getD c 0=(i:Int)):=by
   have hne:st.of.getD c 0<0→∀b,b<k→∀z:Int,(st.of.set c z).getD (T.cell.getD b 0) 0=st.of.getD (T.cell.getD b 0) 0:=fun hn b hb z=>by
    rw [gL _ _ _ _ _ hcl,if_neg];intro e;have:=hp.pos b hb;rw [← e] at this;omega
   unfold jG;split
   ·rename_i hn;split
    ·exact ⟨fun b hb=>hne hn b hb _,af _,fun _ _=>rfl,fun i h1 h2=>by simp only at h2;omega⟩
    ·refine ⟨fun b hb=>hne hn b hb _,by simp,fun i hi=>GG _ _ _ _ hi,fun i h1 h2=> ?_⟩;simp only [eH,Az] at h2;have e:i=st.cls.length:=by omega
     subst e;refine ⟨SG _ _ _,?_⟩;show (st.of.set c _).getD c 0=_;rw [gL _ _ _ _ _ hcl,if_pos rfl,ho.cc]
   ·exact ⟨fun _ _=>rfl,af _,fun _ _=>rfl,fun i h1 h2=>by omega⟩
  obtain ⟨m1,m2,m3,m4⟩:=hm;generalize jG T.nx block az st c=s1 at *;obtain ⟨j,hj⟩:∃j:Nat,s1.of.getD c 0=(j:Int):=⟨_,(qcC f0).symm⟩
  have hjl:j<s1.cls.length:=by
   have:=fo.ob _ (aK s1.of c 0 (by rw [fo.ol];exact hck));rw [hj] at this;rw [fo.cc];omega
  have hof:(yG s1 c k).of=s1.of:=rfl
  have hcls:(yG s1 c k).cls=s1.cls.set j ((s1.cls.getD j bV).union (bV.add k)):=by
   unfold yG;simp only [hj,PI]
  have hold:∀i,i<s1.cls.length→∀b,b<256→(s1.cls.getD i bV).mem b=(decide (b<k) && decide (s1.of.getD (T.cell.getD b 0) 0=(i:Int))):=fun i hi b hb=>by
   by_cases hil:i<st.cls.length
   ·rw [m3 i hil,hp.mem i hil b hb];by_cases hbk:b<k
    ·rw [m1 b hbk]
    ·simp [hbk]
   ·obtain ⟨e1,e2⟩:=m4 i (by omega) hi;rw [e1,nP];by_cases hbk:b<k
    ·rw [m1 b hbk];have:=ho.ob _ (aK st.of (T.cell.getD b 0) 0 (by rw [ho.ol];exact kX h b hb))
     have hne:st.of.getD (T.cell.getD b 0) 0≠(i:Int):=by
      rw [← ho.cc] at this;omega
     rw [decide_eq_false hne,Bool.and_false]
    ·simp [hbk]
  refine ⟨fun b hb=> ?_,fun i hi b hb=> ?_,fun i hi=> ?_⟩
  ·rw [hof];by_cases e:b=k
   ·subst e;rw [hc];exact f0
   ·rw [m1 b (by omega)];exact hp.pos b (by omega)
  ·rw [hcls,qz] at hi;rw [hcls,hof,gL _ _ _ _ _ hjl];by_cases e:j=i
   ·subst e;rw [if_pos rfl,Af,Cl.PU _ _ _ hk' hb,nP,hold j hjl b hb];by_cases eb:b=k
    ·subst eb;rw [hc,hj];simp
    ·have:decide (b<k+1)=decide (b<k):=by
      rw [decide_eq_decide];omega
     rw [this];simp [eb]
   ·rw [if_neg e,hold i hi b hb];by_cases eb:b=k
    ·subst eb;have hne:¬(j:Int)=(i:Int):=by omega
     rw [hc,hj];simp [hne]
    ·have:decide (b<k+1)=decide (b<k):=by
      rw [decide_eq_decide];omega
     rw [this]
  ·rw [hcls,qz] at hi;rw [hof];by_cases hil:i<st.cls.length
   ·obtain ⟨b,h1,h2⟩:=hp.hit i hil;exact ⟨b,by omega,by rw [m1 b h1];exact h2⟩
   ·obtain ⟨_,e2⟩:=m4 i (by omega) hi;exact ⟨k,by omega,by rw [hc];exact e2⟩
theorem Kt (l:List Cl) (k i:Nat):(kG l k).mem i=(l.take k).any fun c=>c.mem i:=by
 unfold kG;rw [DU,nP,DY]
theorem TB.Ok.Nn {T:TB} (h:T.Ok) (h64:T.canon.nx.length≤64):T.canon.V:=by
 have hp:=Bl h (T.refine T.reach).1 (T.refine T.reach).2 256 (af _);have ho:=lN h (T.refine T.reach).1 (T.refine T.reach).2 256 (af _);have hD:T.canon.cls=(iG T (T.refine T.reach).1 (T.refine T.reach).2 256).cls:=by simp only [TB.canon,Iy,TB.merge]
 generalize iG T (T.refine T.reach).1 (T.refine T.reach).2 256=st at *;refine {toOk:=h.canon.1,n64:=h64,ne:= ?_,dj:= ?_,un:= ?_}
 ·rw [hD];intro c hc e;obtain ⟨i,hi,rfl⟩:=List.mem_iff_getElem.1 hc;obtain ⟨b,hb,h2⟩:=hp.hit i hi;have:=hp.mem i hi b hb;rw [dJ,bK hi,rY,e,nP,h2] at this;simp [hb] at this
 ·rw [hD];intro k hk;refine Cl.ext_mem _ _ fun b hb=> ?_;rw [Tw,Kt,nP];rw [Bool.and_eq_false_iff];by_cases hm:(st.cls[k]).mem b=true
  ·refine .inl ?_;rw [Bool.eq_false_iff];intro hany;obtain ⟨c,hc,hcm⟩:=qcX.1 hany;obtain ⟨i,hi,e⟩:=X0.1 hc;subst e;have h1:=hp.mem i (by omega) b hb;have h2:=hp.mem k hk b hb;rw [dJ,bK (by omega),rY,hcm] at h1;rw [dJ,bK hk,rY,hm] at h2;have h1':=h1.symm;have h2':=h2.symm;rw [cB,decide_eq_true_eq,decide_eq_true_eq] at h1' h2';have:=h1'.2.symm.trans h2'.2;omega
  ·exact .inr (by simpa using hm)
 ·rw [hD];refine Cl.ext_mem _ _ fun b hb=> ?_;rw [Qm _ _ hb,Kt,nP,Qp];rw [Bool.not_eq_false'];have h1:=hp.pos b hb;have h2:=ho.ob _ (aK _ (T.cell.getD b 0) 0 (by rw [ho.ol];exact kX h b hb));obtain ⟨i,hi⟩:∃i:Nat,st.of.getD (T.cell.getD b 0) 0=(i:Int):=⟨_,(qcC h1).symm⟩
  rw [hi,← ho.cc] at h2;have hil:i<st.cls.length:=by omega
  have h3:=hp.mem i hil b hb;rw [hi] at h3;refine qcX.2 ⟨_,aK _ i bV hil,?_⟩;rw [h3];simp [hb]
structure JS where
 ks:List (Nat×Nat)
 bs:List Nat
 cell:List Nat
def pX (c1 c2:List Nat) (st:JS) (x:Nat):JS:=
 if (c1.getD x 0,c2.getD x 0)∈st.ks then {st with cell:=st.cell.set x (st.ks.idxOf (c1.getD x 0,c2.getD x 0))} else ⟨st.ks++[(c1.getD x 0,c2.getD x 0)],st.bs++[x],st.cell.set x st.ks.length⟩
def iq (c1 c2:List Nat):Nat→JS
 | 0=>⟨[],[],List.replicate 256 0⟩
 | k+1=>pX c1 c2 (iq c1 c2 k) k
structure JS.Ok (k:Nat) (st:JS):Prop where
 bl:st.bs.length=st.ks.length
 le:st.bs.length≤k
 cl:st.cell.length=256
 bb:∀x∈st.bs,x<k
 cb:∀x∈st.cell,x<max 1 st.ks.length
theorem jQ (c1 c2:List Nat):∀k,k≤256→(iq c1 c2 k).Ok k
 | 0,_=>⟨rfl,af _,by simp [iq],by simp [iq],fun x hx=>by rw [(Wu.1 hx).2];show 0<max 1 0;omega⟩
 | k+1,hk=>by
  have h:=jQ c1 c2 k (by omega);show (pX c1 c2 (iq c1 c2 k) k).Ok (k+1);generalize iq c1 c2 k=st at *;unfold pX;split
  ·rename_i hm;have hid:=qb5 hm;refine ⟨h.bl,by have:=h.le;show st.bs.length≤_;omega,by rw [qz];exact h.cl,fun x hx=>by have:=h.bb x hx;omega,fun x hx=> ?_⟩;rcases Px hx with h' | rfl
   ·exact h.cb x h'
   ·show _<max 1 st.ks.length;omega
  ·refine ⟨by simp [h.bl],by simp only [eH,Az];have:=h.le;omega,by rw [qz];exact h.cl,fun x hx=> ?_,fun x hx=> ?_⟩
   ·rcases pO.1 hx with h' | h'
    ·have:=h.bb x h';omega
    ·rw [jN.1 h'];omega
   ·simp only [eH,Az];rcases Px hx with h' | rfl
    ·have:=h.cb x h';omega
    ·omega
theorem wO (c1 c2:List Nat):∀k,1≤(iq c1 c2 (k+1)).bs.length
 | 0=>by simp [iq,pX]
 | k+1=>by
  have:=wO c1 c2 k;show 1≤(pX c1 c2 (iq c1 c2 (k+1)) (k+1)).bs.length;unfold pX;split
  ·exact this
  ·simp
abbrev Sx:=Nat×Nat×UInt64
def jM:Sx:=(0,0,0)
structure XS where
 ks:List Sx
 row:List Nat
def Jo (m:Nat) (st:XS) (t:Sx):Option XS:=
 if t∈st.ks then some {st with row:=st.row++[st.ks.idxOf t]} else if st.ks.length=m then none else some ⟨st.ks++[t],st.row++[st.ks.length]⟩
def qj (m:Nat) (bU:Sx→Nat→Sx) (s:Sx) (bs:List Nat) (st:XS):Option XS:=bs.foldl (fun o c=>o.bind fun st=>Jo m st (bU s c)) (some st)
structure XA where
 ks:List Sx
 nx:List (List Nat)
 ac:List Bool
def xF (m:Nat) (bU:Sx→Nat→Sx) (acc:Sx→Bool) (bs:List Nat):Nat→Nat→XA→Option XA
 | 0,_,a=>some a
 | f+1,i,a=>if i<a.ks.length then (qj m bU (a.ks.getD i jM) bs ⟨a.ks,[]⟩).bind fun st=>xF m bU acc bs f (i+1) ⟨st.ks,a.nx++[st.row],a.ac++[acc (a.ks.getD i jM)]⟩ else some a
def vH (cell bs:List Nat) (start:Sx) (bU:Sx→Nat→Sx) (acc:Sx→Bool) (m K:Nat):Option TB:=(xF m bU acc bs K 0 ⟨[start],[],[]⟩).map fun a=>⟨cell,bs.length,a.nx,a.ac⟩
theorem WT (m:Nat) (bU:Sx→Nat→Sx) (s:Sx) (st:XS):qj m bU s [] st=some st:=rfl
theorem Jg (m:Nat) (bU:Sx→Nat→Sx) (s:Sx):∀bs:List Nat,bs.foldl (fun o c=>o.bind fun st=>Jo m st (bU s c)) (none:Option XS)=none
 | []=>rfl
 | _::bs=>Jg m bU s bs
theorem Km (m:Nat) (bU:Sx→Nat→Sx) (s:Sx) (bs:List Nat) (st:XS) (j:Nat) (hj:j<bs.length):qj m bU s (bs.take (j+1)) st=(qj m bU s (bs.take j) st).bind fun x=>Jo m x (bU s bs[j]):=by
 unfold qj;rw [dz _ _ _ _ hj]
theorem Tg (m:Nat) (bU:Sx→Nat→Sx) (s:Sx) (bs:List Nat) (st:XS) (j:Nat) (hn:qj m bU s (bs.take j) st=none):qj m bU s bs st=none:=by
 conv=>lhs;rw [← qct j bs]
 unfold qj at hn ⊢;rw [Rl,hn,Jg]
structure XOk (ok:Sx→Prop) (m:Nat) (ks:List Sx):Prop where
 nd:ks.Nodup
 ok:∀s∈ks,ok s
 le:ks.length≤m
 ne:1≤ks.length
structure XS.Ok (ok:Sx→Prop) (m:Nat) (st:XS):Prop extends XOk ok m st.ks where
 rb:∀x∈st.row,x<st.ks.length
theorem IC {ok:Sx→Prop} {m:Nat} {st st':XS} (h:st.Ok ok m) {t:Sx} (ht:ok t) (hp:Jo m st t=some st'):st'.Ok ok m∧st'.row.length=st.row.length+1∧st.ks.length≤st'.ks.length:=by
 unfold Jo at hp;split at hp
 ·rename_i hm;have hid:=qb5 hm;injection hp with hp
  subst hp;refine ⟨{toXOk:=h.toXOk,rb:=fun x hx=> ?_},by simp,af _⟩;rcases pO.1 hx with h' | h'
  ·exact h.rb x h'
  ·rw [jN.1 h'];exact hid
 ·rename_i hm;split at hp
  ·cases hp
  ·rename_i hl;injection hp with hp
   subst hp;have hle:=h.le;refine ⟨{nd:=qcR.2 ⟨h.nd,by simp,fun a ha b hb e=>hm (by rw [← jN.1 hb,← e];exact ha)⟩,ok:=fun s hs=> ?_,le:=by simp;omega,ne:=by simp,rb:=fun x hx=> ?_},by simp,by simp⟩
   ·rcases pO.1 hs with h' | h'
    ·exact h.ok s h'
    ·rw [jN.1 h'];exact ht
   ·simp only [eH,Az];rcases pO.1 hx with h' | h'
    ·have:=h.rb x h';omega
    ·rw [jN.1 h'];omega
theorem QA {ok:Sx→Prop} {m:Nat} {bU:Sx→Nat→Sx} {s:Sx} {bs:List Nat} (hn:∀c∈bs,ok (bU s c)) {st:XS} (h:st.Ok ok m) (hr:st.row=[]):
  ∀(j:Nat) (st':XS),j≤bs.length→qj m bU s (bs.take j) st=some st'→st'.Ok ok m∧st'.row.length=j∧st.ks.length≤st'.ks.length
 | 0,st',_,e=>by
  rw [List.take_zero,WT] at e;injection e with e
  subst e;exact ⟨h,by rw [hr];rfl,af _⟩
 | j+1,st',hj,e=>by
  rw [Km _ _ _ _ _ _ hj] at e;obtain ⟨st1,e1,e2⟩:=qcP.1 e;obtain ⟨h1,h2,h3⟩:=QA hn h hr j st1 (by omega) e1;obtain ⟨g1,g2,g3⟩:=IC h1 (hn _ (oO hj)) e2;exact ⟨g1,by rw [g2,h2],by omega⟩
structure XA.Ok (ok:Sx→Prop) (m n i:Nat) (a:XA):Prop extends XOk ok m a.ks where
 il:i≤a.ks.length
 nl:a.nx.length=i
 al:a.ac.length=i
 rl:∀r∈a.nx,r.length=n
 rb:∀r∈a.nx,∀t∈r,t<a.ks.length
theorem Rt {ok:Sx→Prop} {m i:Nat} {bU:Sx→Nat→Sx} {bs:List Nat} {a:XA} (h:a.Ok ok m bs.length i) (hn:∀s,ok s→∀c∈bs,ok (bU s c)) (hi:i<a.ks.length) {st:XS} (e:qj m bU (a.ks.getD i jM) bs ⟨a.ks,[]⟩=some st) (z:Bool):
  XA.Ok ok m bs.length (i+1) ⟨st.ks,a.nx++[st.row],a.ac++[z]⟩:=by
 have hs:=h.ok _ (aK a.ks i jM hi);obtain ⟨h1,h2,h3⟩:=QA (st:=⟨a.ks,[]⟩) (hn _ hs) {toXOk:=h.toXOk,rb:=by simp} rfl bs.length st (af _) (by rw [Qp];exact e);refine {toXOk:=h1.toXOk,il:=by simp only at h3;show i+1≤st.ks.length;omega,nl:=by simp [h.nl],al:=by simp [h.al],rl:=fun r hr=> ?_,rb:=fun r hr t ht=> ?_}
 ·rcases pO.1 hr with h' | h'
  ·exact h.rl r h'
  ·rw [jN.1 h'];exact h2
 ·show t<st.ks.length;rcases pO.1 hr with h' | h'
  ·have:=h.rb r h' t ht;simp only at h3;omega
  ·rw [jN.1 h'] at ht;exact h1.rb t ht
theorem Uz {ok:Sx→Prop} {m n:Nat} {start:Sx} (hs:ok start) (hm:1≤m):XA.Ok ok m n 0 ⟨[start],[],[]⟩:=
 {nd:=by simp,ok:=by simp only [jN];rintro s rfl;exact hs,le:=hm,ne:=by simp,il:=LC _,nl:=rfl,al:=rfl,rl:=by simp,rb:=by simp}
theorem aaT {ok:Sx→Prop} {m K:Nat} {bU:Sx→Nat→Sx} {acc:Sx→Bool} {bs:List Nat} (hn:∀s,ok s→∀c∈bs,ok (bU s c)) (hK:∀l:List Sx,XOk ok m l→l.length≤K):
  ∀(f i:Nat) (a b:XA),a.Ok ok m bs.length i→K≤f+i→xF m bU acc bs f i a=some b→∃k,b.Ok ok m bs.length k∧k=b.ks.length
 | 0,i,a,b,h,hf,e=>by
  injection e with e
  subst e;exact ⟨i,h,by have:=hK _ h.toXOk;have:=h.il;omega⟩
 | f+1,i,a,b,h,hf,e=>by
  unfold xF at e;split at e
  ·rename_i hi;obtain ⟨st,e1,e2⟩:=qcP.1 e;exact aaT hn hK f _ _ b (Rt h hn hi e1 _) (by omega) e2
  ·rename_i hi;injection e with e
   subst e;exact ⟨i,h,by have:=h.il;omega⟩
theorem PW (m:Nat) (bU:Sx→Nat→Sx) (acc:Sx→Bool) (bs:List Nat) (n i:Nat) (a:XA) (h:i<a.ks.length) (hn:a.ks.length≤n):
  xF m bU acc bs (n - i) i a=(qj m bU (a.ks.getD i jM) bs ⟨a.ks,[]⟩).bind fun st=>xF m bU acc bs (n - (i+1)) (i+1) ⟨st.ks,a.nx++[st.row],a.ac++[acc (a.ks.getD i jM)]⟩:=by
 rw [show n - i=(n - (i+1))+1 by omega,xF,if_pos h]
theorem acP (m:Nat) (bU:Sx→Nat→Sx) (acc:Sx→Bool) (bs:List Nat) (f i:Nat) (a:XA) (h:a.ks.length≤i):xF m bU acc bs f i a=some a:=by
 cases f with
 | zero=>rfl
 | succ f=>rw [xF,if_neg (by omega)]
theorem Dn {ok:Sx→Prop} {m K:Nat} {bU:Sx→Nat→Sx} {acc:Sx→Bool} {cell bs:List Nat} {start:Sx} (hs:ok start) (hm:1≤m) (hn:∀s,ok s→∀c∈bs,ok (bU s c)) (hK:∀l:List Sx,XOk ok m l→l.length≤K) (YJ:K≤65535)
  (hc:cell.length=256) (hb:bs.length≤256) (hcb:∀x∈cell,x<bs.length) {T:TB} (e:vH cell bs start bU acc m K=some T):T.Ok:=by
 unfold vH at e;obtain ⟨a,e1,rfl⟩:=Option.map_eq_some_iff.1 e;obtain ⟨k,h,rfl⟩:=aaT hn hK K 0 _ a (Uz hs hm) (by omega) e1;have hle:=hK _ h.toXOk;have hne:=h.ne;have hnl:=h.nl;exact ⟨hc,hb,hcb,by show 1≤a.nx.length;omega,by show a.nx.length≤_;omega,by show a.ac.length=a.nx.length;rw [h.nl,h.al],h.rl,fun r hr t ht=>by show t<a.nx.length;rw [hnl];exact h.rb r hr t ht⟩
def TB.to (T:TB) (s b:Nat):Nat:=(T.nx.getD s []).getD (T.cell.getD b 0) 0
def mQ (s:UInt64) (q:Nat):Bool:=(s>>>UInt64.ofNat q) &&& 1==1
def F7 (T:TB) (s:UInt64) (b:Nat):Nat→UInt64
 | 0=>0
 | q+1=>if mQ s q=true then F7 T s b q ||| ((1:UInt64)<<<UInt64.ofNat (T.to q b)) else F7 T s b q
def TB.targets (T:TB) (s:UInt64) (b:Nat):UInt64:=F7 T s b T.nx.length
def TB.some (T:TB) (s:UInt64):Bool:=(List.range T.nx.length).any fun q=>T.ac.getD q false && mQ s q
def lim (T:TB):Except Nat DF:=if T.canon.nx.length≤64 then .ok T.canon else .error 2
def UH:Option TB→Except Nat DF
 | none=> .error 2
 | some T=>lim T
def Br (x y:TB):JS:=iq x.cell y.cell 256
def kT (A:DF):TB:=bP (bP A).canon
def tq (x:TB) (s:Sx):Sx:=if x.ac.getD s.1 false=true then (s.1,s.2.1,s.2.2 ||| 1) else s
def vI (x y:TB) (s:Sx) (c:Nat):Sx:=tq x (x.to s.1 c,0,y.targets s.2.2 c)
def P7 (x y:TB):Option TB:=vH (Br x y).cell (Br x y).bs (tq x jM) (vI x y) (fun s=>y.some s.2.2) 4096 4096
def DF.cat (A B:DF):Except Nat DF:=UH (P7 (kT A) (kT B))
def uM (x:TB) (s:Sx) (c:Nat):Sx:=if x.some (x.targets s.2.2 c)=true then (0,0,x.targets s.2.2 c ||| 1) else (0,0,x.targets s.2.2 c)
def Er (x:TB):Option TB:=vH (Br x x).cell (Br x x).bs (1,0,1) (uM x) (fun s=>s.1==1 || x.some s.2.2) 4096 4096
def DF.star (A:DF):Except Nat DF:=UH (Er (kT A))
def eF:TB:=⟨List.range 256,256,[List.replicate 256 1,List.replicate 256 1],[true,false]⟩
theorem P9 (l:List Cl) (k:Nat) (h:k<l.length):kG l (k+1)=(kG l k).union l[k]:=dz _ _ _ _ h
theorem He (w:World) (v:Value) (D:DF) (hv:dm w v D) (hV:D.V):Calls Tryz.prog 69 #[v] w fun e w'=>e= .returned (.bool true)∧Below w.heap.size w w':=by
 obtain ⟨vc,vn,va,rfl,h1,h2,h3⟩:=hv;obtain ⟨pc,kc,rfl⟩:=h1.slice;obtain ⟨pn,kn,rfl⟩:=h2.slice;obtain ⟨pa,ka,rfl⟩:=h3.slice;have HC:=Lib.hid h1;have HN:=Lib.hid h2;have HA:=Lib.hid h3;have HV:=Lib.hid hV;have hac:=hV.ac;obtain ⟨n,Hn⟩:∃n,Hid (D.nx.length=n):=⟨_,Lib.hid rfl⟩
 obtain ⟨m,Hm⟩:∃n,Hid (D.cls.length=n):=⟨_,Lib.hid rfl⟩
 rw [Hn.out] at hac HN ⊢;rw [hac] at HA ⊢;rw [Hm.out] at HC ⊢;have g1:1≤n:=by rw [← Hn.out];exact hV.n1
 have g2:n≤64:=by rw [← Hn.out];exact hV.n64
 have g3:1≤m:=by rw [← Hm.out];exact hV.c1
 have g4:m≤256:=by rw [← Hm.out];exact hV.lY
 clear h1 h2 h3 hV hac;have hD0:Row oV (w.alloc (.cells #[.slice pc m kc, .slice pn n kn, .slice pa n ka] 79)) w.heap.size 79 [⟨.slice pc m kc,rfl⟩,⟨.slice pn n kn,rfl⟩,⟨.slice pa n ka,rfl⟩]:=Row.new _ _ rfl;have hB0:Below w.heap.size w (w.alloc (.cells #[.slice pc m kc, .slice pn n kn, .slice pa n ka] 79)):=(ak _ _).alloc (af _) _;have hS0:(w.alloc (.cells #[.slice pc m kc, .slice pn n kn, .slice pa n ka] 79)).heap.size=w.heap.size+1:=bO _ _;have gq:=QD;go_enter Tryz.func69,Tryz.ntmps69;go_upto_region 1 with (fail);generalize (w.alloc (.cells #[.slice pc m kc, .slice pn n kn, .slice pa n ka] 79))=W at hD0 hB0 hS0 ⊢;have c0:W.cell? ⟨w.heap.size,0,none⟩=some (.slice pc m kc):=by rw [hD0.cell?];rfl
 have c1:W.cell? ⟨w.heap.size,1,none⟩=some (.slice pn n kn):=by rw [hD0.cell?];rfl
 have c2:W.cell? ⟨w.heap.size,2,none⟩=some (.slice pa n ka):=by rw [hD0.cell?];rfl
 have b1:((n:Int) !=(n:Int))=false:=by simp
 have d1:decide ((n:Int)<1)=false:=by rw [decide_eq_false_iff_not];omega
 have d2:decide ((64:Int)<(n:Int))=false:=by rw [decide_eq_false_iff_not];omega
 have d3:decide ((m:Int)<1)=false:=by rw [decide_eq_false_iff_not];omega
 have d4:decide ((256:Int)<(m:Int))=false:=by rw [decide_eq_false_iff_not];omega
 have hS1:Row oV (W.alloc (.cells fJ 65)) W.heap.size 65 (aG (kG D.cls 0)):=Row.new _ _ rfl;have hD1:=hD0.alloc (.cells fJ 65);have hB1:=ah hB0 (af _) (.cells fJ 65);have hs1:w.heap.size+2≤(W.alloc (.cells fJ 65)).heap.size:=by rw [bO];omega
 rw [hS0] at hS1;go_upto_region 5 with (fail);clear c0 c1 c2;generalize (W.alloc (.cells fJ 65))=W1 at hS1 hD1 hB1 hs1 ⊢;clear hD0 hB0 hS0;clear W;have HDR:Hid (Row oV W1 w.heap.size 79 [⟨.slice pc m kc,rfl⟩,⟨.slice pn n kn,rfl⟩,⟨.slice pa n ka,rfl⟩]):=Lib.hid hD1;have c0:W1.cell? ⟨w.heap.size,0,none⟩=some (.slice pc m kc):=by rw [hD1.cell?];rfl
 obtain ⟨sb,hsb⟩:∃sb,w.heap.size+1=sb:=⟨_,rfl⟩
 have agr:w.heap.size<sb:=by omega
 rw [hsb] at hS1 ⊢;replace hs1:sb+1≤W1.heap.size:=by omega
 clear hsb hD1;obtain ⟨db,hdb⟩:∃db,w.heap.size=db:=⟨_,rfl⟩
 rw [hdb] at hB1 agr c0 HDR ⊢;go_wp2_with fail
 go_loopw [42] (fun i wr=>∃k:Nat,k≤m∧i= .int .i64 k∧Row oV wr sb 65 (aG (kG D.cls k))∧Below sb W1 wr) (fun i _=>m - (intOf i).toNat)
 case atStart=>exact ⟨0,by omega,rfl,hS1,ak _ _⟩
 case round=>
  clear hS1 c0;obtain ⟨k,hk,rfl,hS,hX⟩:=hrel;by_cases hlt:k<m
  ·have hq:(k:Int)<(m:Int):=by omega
   have hkl:k<D.cls.length:=by rw [Hm.out];exact hlt
   have hXs:=hX.size;have hW1:Below w.heap.size w wr:=by rw [hdb];exact hB1.trans (hX.mono (by omega))
   obtain ⟨cb,co,rfl,hAt,_,hcl⟩:=HC.out.elem k hkl;have hA:=hAt.below hW1 hcl;have hne:=HV.out.ne _ (oO hkl);have hdj:=HV.out.dj k hkl;have HS:=Lib.hid (P9 D.cls k hkl);generalize D.cls[k]=c at *;generalize kG D.cls k=s0 at *;have he:=fun w:World=>ab8 w c hne;have hn:=QL;have R9:=ah hX (by omega) (.cells fJ 65);have hSB:=hS.alloc (.cells fJ 65);have hsl:=hS.lt;have hz:Row oV (wr.alloc (.cells fJ 65)) wr.heap.size 65 [ow 0,ow 0,ow 0,ow 0]:=Row.new _ _ rfl;have hc4:(au c).size=4:=rfl
   go_upto_region 8 with (first
    | ((with_reducible refine zL hA ay rfl (C:=au c) ?_))
    | ((with_reducible refine zS (l':=aG c) hz ay ?_);(intro W6 hs6 di fO)))
   have zu:Below sb W1 W6:=R9.grown di (by have:=R9.size;omega) (fun k e=>by cases e;omega);have Ak:=hSB.grown di (by simp;omega);clear hz R9 hSB hsl hA hAt hS di fO hX hW1;generalize wr.heap.size=bx at hs6 hXs ⊢;have y0:W6.cell? ⟨bx,0,none⟩=some (.int .u64 (X c.a)):=by rw [hs6.cell?];rfl
   have y1:W6.cell? ⟨bx,1,none⟩=some (.int .u64 (X c.b)):=by rw [hs6.cell?];rfl
   have y2:W6.cell? ⟨bx,2,none⟩=some (.int .u64 (X c.c)):=by rw [hs6.cell?];rfl
   have y3:W6.cell? ⟨bx,3,none⟩=some (.int .u64 (X c.d)):=by rw [hs6.cell?];rfl
   have z0:W6.cell? ⟨sb,0,none⟩=some (.int .u64 (X s0.a)):=by rw [Ak.cell?];rfl
   have z1:W6.cell? ⟨sb,1,none⟩=some (.int .u64 (X s0.b)):=by rw [Ak.cell?];rfl
   have z2:W6.cell? ⟨sb,2,none⟩=some (.int .u64 (X s0.c)):=by rw [Ak.cell?];rfl
   have z3:W6.cell? ⟨sb,3,none⟩=some (.int .u64 (X s0.d)):=by rw [Ak.cell?];rfl
   clear wr;have hci:=Qq W6 s0 c;rw [Td,hdj] at hci;have HCI:=Lib.hid hci;clear hci;go_wp2_with fail;refine HCI.out.mono ?_;rintro e W7 ⟨rfl,fD⟩;have hsz:=zu.size;have Te:=zu.trans (fD.mono (by omega));have sM:=Ak.below fD Ak.lt;have hs7:=hs6.below fD hs6.lt;have HU:=Lib.hid (II W7 s0 c);clear HCI y0 y1 y2 y3 z0 z1 z2 z3 zu Ak hs6 fD
   go_wp2_with (first
    | ((with_reducible refine zL sM.at ay rfl (C:=au s0) ?_))
    | ((with_reducible refine zL hs7.at ay rfl (C:=au c) ?_)))
   refine HU.out.mono ?_;rintro e W8 ⟨rfl,jf⟩;have agX:=Te.size;have XJ:=Te.trans (jf.mono (by omega));have wM:=sM.below jf sM.lt;clear HU Te sM hs7 jf;go_wp2_with ((with_reducible refine zS (l':=aG (s0.union c)) wM ay ?_);(intro W9 iH dw sN));have hX9:=XJ.grown dw (by have:=XJ.size;omega) (fun k e=>by cases e;omega);rw [← HS.out] at iH;clear XJ wM dw sN
   go_roundw
   case rel=>exact ⟨k+1,by omega,by go_num,iH,hX9⟩
   case measure=>simp [intOf];omega
  ·obtain rfl:k=m:=by omega
   have hun:=HV.out.un;rw [Hm.out] at hun;have hc:=aaC wr (kG D.cls k);have hun':Cl.zip (fun x _=> ~~~x) (kG D.cls k) (kG D.cls k)=bV:=hun;rw [hun'] at hc;have QJ:=Lib.hid hc;clear hun hun' hc;generalize kG D.cls k=s0 at *;have hn:=QL;go_wp2_with ((with_reducible refine zL hS.at ay rfl (C:=au s0) ?_));refine QJ.out.mono ?_;rintro e W2 ⟨rfl,hB2⟩;have hsz:=hX.size;have hX2:=hX.trans (hB2.mono (by omega));clear QJ hS hX hB2;have hD2:=HDR.out.below hX2 (by omega);have e1:W2.cell? ⟨db,1,none⟩=some (.slice pn n kn):=by rw [hD2.cell?];rfl
   have e0:∀X,Below W2.heap.size W2 X→X.cell? ⟨db,0,none⟩=some (.slice pc k kc):=fun X h=>by rw [(hD2.below h hD2.lt).cell?];rfl
   have Sz:Hid (Below w.heap.size w W2):=Lib.hid (by rw [hdb];exact hB1.trans (hX2.mono (by omega)));clear hX2 hD2 hsz;go_wp2_with fail
   go_loopw [8,67] (fun _ i wr=>∃j:Nat,j≤n∧i= .int .i64 j∧Below W2.heap.size W2 wr) (fun _ i _=>n - (intOf i).toNat)
   case atStart=>exact ⟨0,by omega,rfl,ak _ _⟩
   case round=>
    clear e1;obtain ⟨j,hj,rfl,hX⟩:=hrel;by_cases hjn:j<n
    ·have hq:(j:Int)<(n:Int):=by omega
     have hjl:j<D.nx.length:=by rw [Hn.out];exact hjn
     have hW1:Below w.heap.size w wr:=Sz.out.trans (hX.mono Sz.out.size);obtain ⟨nb,no,u,rfl,hcu,hrow,_,hnl⟩:=HN.out.elem j hjl;have ae4:wr.cell? ⟨nb,no+j,none⟩=some u:=(hW1.cell (p:=⟨nb,no+j,none⟩) hnl).trans hcu;have hrl:=HV.out.rw _ (oO hjl);have hrb:=HV.out.rb _ (oO hjl);rw [Hm.out] at hrl;rw [Hn.out] at hrb;have Nz:=hrow.below hW1;generalize D.nx[j]=row at *;obtain ⟨pr,cr,rfl⟩:=Nz.slice;rw [hrl] at Nz ae4;have HR:=Lib.hid Nz;have HRB:=Lib.hid hrb;have DL:=Lib.hid hrl;have e0':=e0 wr hX;have b2:((k:Int) !=(k:Int))=false:=by simp
     clear hcu hrow Nz hrb hrl hW1;go_wp2_with fail;obtain ⟨wo,Hwo⟩:∃wo:World,Hid (wo=wr):=⟨_,Lib.hid rfl⟩
     go_loopw [10,79] (fun _ i wq=>∃q:Nat,q≤k∧i= .int .i64 q∧wq=wo) (fun _ i _=>k - (intOf i).toNat)
     case atStart=>exact ⟨0,by omega,rfl,Hwo.out.symm⟩
     case round=>
      obtain ⟨q,hqk,rfl,rfl⟩:=hrel;by_cases hlt:q<k
      ·have hq2:(q:Int)<(k:Int):=by omega
       obtain ⟨rb,ro,rfl,hct⟩:=iF HR.out q hlt;have ct:=hct _ (ak _ _);rw [← Hwo.out] at ct;have ht:row.getD q 0<n:=HRB.out _ (aK _ _ _ (by rw [DL.out];exact hlt));generalize row.getD q 0=t at *;have ht1:((t:Nat):Int)<(n:Int):=by omega
       have dt1:decide ((t:Int)<0)=false:=by rw [decide_eq_false_iff_not];omega
       have dt2:decide ((n:Int)≤(t:Int))=false:=by rw [decide_eq_false_iff_not];omega
       clear hct;go_wp2_with fail
       go_roundw
       case rel=>exact ⟨q+1,by omega,by go_num,trivial⟩
       case measure=>simp [intOf];omega
      ·have hq2:¬(q:Int)<(k:Int):=by omega
       go_wp2_with fail
       go_roundw
       case rel=>exact ⟨j+1,by omega,by go_num,by rw [Hwo.out];exact hX⟩
       case measure=>simp [intOf];omega
    ·have hq:¬(j:Int)<(n:Int):=by omega
     go_wp2;go_ret;have hfin:=Sz.out.trans (hX.mono Sz.out.size);rw [hdb] at hfin;exact ⟨rfl,hfin⟩
end
section
open Go Go.RowKit Mem
def fE (L:List St):List Value:=L.flatMap fun s=>s.cs.map oV
theorem GI (L:List St):(fE L).length=L.length * 33:=by
 induction L with
 | nil=>rfl
 | cons a l ih=>simp only [fE,Lg,eH,fe,St.jr,mO] at ih ⊢;omega
theorem OU (L:List St):∀(j:Nat) (s:St),L[j]?=some s→∀i,i<33→(fE L)[j * 33+i]?=(s.cs[i]?).map oV:=by
 induction L with
 | nil=>intro j s h;simp at h
 | cons a l ih=>
  intro j s h i hi;have hc:fE (a::l)=(a.cs.map oV)++fE l:=by simp [fE]
  rw [hc];cases j with
  | zero=>
   simp only [VN,ax] at h;subst h;rw [Jl (by rw [fe,St.jr];omega),TT,oq,kJ]
  | succ j=>
   rw [JV (by rw [fe,St.jr];omega),fe,St.jr,show (j+1) * 33+i - 33=j * 33+i by omega];exact ih j s (by simpa using h) i hi
def xG (w:World) (g:Nat) (L:List St):Prop:=∃cur,w.heap[g]?=some (.cells cur 98 (0,0))∧L.length * 33≤cur.size∧∀j s,L[j]?=some s→∀i,i<33→cur[j * 33+i]?=(s.cs[i]?).map oV
theorem xG.lt {w:World} {g:Nat} {L:List St} (h:xG w g L):g<w.heap.size:=by obtain ⟨cur,hg,_⟩:=h;exact (jB.1 hg).1
theorem xG.block {w w':World} {g:Nat} {L:List St} (h:xG w g L) (hb:w'.heap[g]?=w.heap[g]?):xG w' g L:=by obtain ⟨cur,hg,h2⟩:=h;exact ⟨cur,hb.trans hg,h2⟩
theorem xG.below {w w':World} {B g:Nat} {L:List St} (h:xG w g L) (hb:Below B w w') (hB:g<B):xG w' g L:=h.block (hb.block g hB)
theorem xG.at {w:World} {g:Nat} {L:List St} (h:xG w g L) (j:Nat) (s:St) (hj:L[j]?=some s):At oV w g (j * 33) s.cs:=by
 obtain ⟨cur,hg,_,hc⟩:=h;intro i hi;rw [St.jr] at hi;unfold World.cell?;rw [hg];exact hc j s hj i hi
theorem xG.new (w:World) (L:List St):xG (w.alloc (.cells (fE L).toArray 98)) w.heap.size L:=
 ⟨_,World.alloc_heap_new _ _,by rw [Ck,GI];exact af _,fun j s hj i hi=>by rw [qcs];exact OU L j s hj i hi⟩
theorem xG.set {w:World} {g:Nat} {L:List St} (h:xG w g L) (j:Nat) (s s':St) (k:Nat) (u:OC) (hj:L[j]?=some s) (hk:k<33) (hs:s'.cs=s.cs.set k u):xG (w.setCell ⟨g,j * 33+k,none⟩ u.1) g (L.set j s'):=by
 obtain ⟨cur,hg,hl,hc⟩:=h;have hjl:j<L.length:=(JN.1 hj).1;have hgl:g<w.heap.size:=(jB.1 hg).1;refine ⟨cur.setIfInBounds (j * 33+k) u.1,?_,by rw [qcN,qz];exact hl,?_⟩
 ·simp only [World.setCell];rw [Rf,if_pos rfl,hg];rfl
 ·intro j' s1 hj' i hi;rw [SI];by_cases he:j=j'
  ·subst he;rw [List.getElem?_set_self hjl] at hj';cases hj';rw [hs];by_cases hki:k=i
   ·subst hki;rw [if_pos rfl,if_pos (by omega),List.getElem?_set_self (by rw [St.jr];exact hk)];rfl
   ·rw [if_neg (by omega),List.getElem?_set_ne hki];exact hc j s hj i hi
  ·rw [List.getElem?_set_ne he] at hj';rw [if_neg (by omega)];exact hc j' s1 hj' i hi
theorem xG.frozen {w:World} {g:Nat} {L:List St} (h:xG w g L) (i:Nat):w.frozen? ⟨g,i,none⟩=false:=by
 obtain ⟨cur,hg,_⟩:=h;unfold World.frozen?;rw [hg];simp
section
variable {P:Program} {ops:Array Oper} {rest:List Oper} {o:Oper} {a:Act} {Q:Exit→Act→World→Prop} {w:World} {base:Nat} {e:TypeId} {v:Value}
end
end
section
open Go Go.RowKit Mem
def nums (n:Nat):List Int:=(List.range n).map Int.ofNat
def afm (g n c:Nat):OC:=⟨.slice (some ⟨g,0,none⟩) n c,rfl⟩
section
variable {P:Program} {ops:Array Oper} {rest:List Oper} {o:Oper} {a:Act} {Q:Exit→Act→World→Prop} {w:World} {base:Nat} {e:TypeId} {v:Value}
end
theorem OQ {w:World} {base:Nat} {e:TypeId} {size:Nat} {g n c:Nat} {xs:List Value} (h:w.ownsRow base e size (.slice (some ⟨g,0,none⟩) n c) n xs) (i:Nat) (v:Value):(w.setCell ⟨g,i,none⟩ v).ownsRow base e size (.slice (some ⟨g,0,none⟩) n c) n (xs.set i v):=by
 refine ⟨by rw [qz];exact h.1,?_⟩;rcases h.2 with ⟨h0,_⟩ | ⟨g',cap,cur,he,hb,hg,hc,hm,hs,ht⟩
 ·cases h0
 ·cases he;refine .inr ⟨g,c,cur.setIfInBounds i v,rfl,hb,?_,hc,hm,by rw [qcN];exact hs,?_⟩
  ·simp only [World.setCell];rw [Rf,if_pos rfl,hg];rfl
  ·rw [qcx,List.take_set,ht]
theorem tY {α:Type} {f:α→Value} {w:World} {base:Nat} {e:TypeId} {size:Nat} {v:Value} {n:Nat} {xs:List Value} (h:w.ownsRow base e size v n xs) {b:Nat} {t:TypeId} {l:List α} (hr:Row f w b t l) (hne:e≠t):∀g,v.ownBlock=some g→g≠b:=by
 rintro g hg rfl;rcases h.2 with ⟨h0,_⟩ | ⟨g',cap,cur,he,_,hc,_⟩
 ·rw [h0] at hg;cases hg
 ·rw [he] at hg;cases hg;unfold Row at hr;rw [hr] at hc;cases hc;exact hne rfl
theorem FH {w:World} {base aeS:Nat} {e e2:TypeId} {size aeM:Nat} {v v2:Value} {n n2:Nat} {xs xs2:List Value} (h:w.ownsRow base e size v n xs) (h2:w.ownsRow aeS e2 aeM v2 n2 xs2) (hne:e≠e2):∀g,v.ownBlock=some g→∀g2,v2.ownBlock=some g2→g≠g2:=by
 rintro g hg g2 hg2 rfl;rcases h.2 with ⟨h0,_⟩ | ⟨g',cap,cur,he,_,hc,_⟩
 ·rw [h0] at hg;cases hg
 ·rcases h2.2 with ⟨h0,_⟩ | ⟨g'',cap',cur',he',_,hc',_⟩
  ·rw [h0] at hg2;cases hg2
  ·rw [he] at hg;rw [he'] at hg2;cases hg;cases hg2;rw [hc] at hc';cases hc';exact hne rfl
end
section
open Go Go.RowKit Mem
theorem oD (s:St) (L:List St):fE (s::L)=s.cs.map oV++fE L:=by simp [fE]
theorem zF:∀(L:List St) (j:Nat) (s s':St) (k:Nat) (u:OC),L[j]?=some s→k<33→s'.cs=s.cs.set k u→(fE L).set (j * 33+k) u.1=fE (L.set j s')
 | [],j,s,s',k,u,hj,_,_=>by simp at hj
 | a::l,0,s,s',k,u,hj,hk,hs=>by
  have he:a=s:=by simpa using hj
  subst he;show (fE (a::l)).set (0 * 33+k) u.1=fE (s'::l);rw [oD,oD,TT,oq,List.set_append_left _ _ (by rw [fe,St.jr];exact hk),hs,Um];rfl
 | a::l,j+1,s,s',k,u,hj,hk,hs=>by
  have ih:=zF l j s s' k u (by simpa using hj) hk hs;show (fE (a::l)).set ((j+1) * 33+k) u.1=fE (a::l.set j s');rw [oD,oD,GA _ _ (by rw [fe,St.jr];omega),fe,St.jr,show (j+1) * 33+k - 33=j * 33+k by omega,ih]
structure PV (w1:World) (B0:Nat) (w:World) (pb:Nat) (T:TypeId) (vs vb:OC) (ext:List OC) (L:List St) (R:List OC) (BL:List (List Int)):Prop where
 row:Row oV w pb T (vs::vb::ext)
 own:w.ownsRow B0 98 33 vs.1 L.length (fE L)
 blk:Mem.Own oV w B0 92 vb.1 R
 ro:F2 (fun (r:OC) (l:List Int)=>Mem.Own iV w B0 3 r.1 l) R BL
 ds:∀i j,i<R.length→j<R.length→i≠j→∀g,(R.getD i on).1.ownBlock=some g→(R.getD j on).1.ownBlock≠some g
 low:Below w1.heap.size w1 w
 b0:w1.heap.size≤B0
 pbl:w1.heap.size≤pb
 bw:B0≤w.heap.size
def PvT (T:TypeId):Prop:=T≠98∧T≠92∧T≠3
theorem U4 {α β:Type} {R:α→β→Prop}:∀{l:List α} {m:List β},F2 R l m→∀(i:Nat) (a:α),l[i]?=some a→∃b,m[i]?=some b∧R a b
 | _,_, .cons h _,0,a,ha=>by cases ha;exact ⟨_,rfl,h⟩
 | _,_, .cons _ t,i+1,a,ha=>U4 t i a (by simpa using ha)
theorem PX {α β:Type} {R:α→β→Prop}:∀{l:List α} {m:List β},F2 R l m→∀(i:Nat) (b:β),m[i]?=some b→∃a,l[i]?=some a∧R a b
 | _,_, .cons h _,0,b,hb=>by cases hb;exact ⟨_,rfl,h⟩
 | _,_, .cons _ t,i+1,b,hb=>PX t i b (by simpa using hb)
section
variable {w1 w w2:World} {B0 pb g c:Nat} {T:TypeId} {vs vb:OC} {ext:List OC} {L:List St} {R:List OC} {BL:List (List Int)}
theorem PV.own' (h:PV w1 B0 w pb T vs vb ext L R BL):w.ownsRow B0 92 1 vb.1 R.length (R.map oV):=h.blk
theorem PV.keep (h:PV w1 B0 w pb T vs vb ext L R BL) (hb:Below w.heap.size w w2):PV w1 B0 w2 pb T vs vb ext L R BL:=
 ⟨h.row.below hb h.row.lt,dF h.own fun g _ hl=>hb.block g hl,h.blk.below' hb,bg (fun _ _ d=>d.below' hb) h.ro,h.ds,h.low.trans (hb.mono h.low.size),h.b0,h.pbl,aJ h.bw hb.size⟩
theorem PV.nS (h:PV w1 B0 w pb T vs vb ext L R BL) (hT:PvT T):∀g,vs.1.ownBlock=some g→g≠pb:=tY h.own h.row (Ot hT.1)
theorem PV.IX {n:Nat} (h:PV w1 B0 w pb T ⟨.slice (some ⟨g,0,none⟩) n c,rfl⟩ vb ext L R BL) (hT:PvT T) (j:Nat) (s s':St) (k:Nat) (u:OC) (hj:L[j]?=some s) (hk:k<33) (hs:s'.cs=s.cs.set k u):PV w1 B0 (w.setCell ⟨g,j * 33+k,none⟩ u.1) pb T ⟨.slice (some ⟨g,0,none⟩) n c,rfl⟩ vb ext (L.set j s') R BL:=by
 have hlt:=World.ownsRow.lt h.own g rfl
 have hn:n=L.length:=by
  rcases h.own.2 with ⟨h0,_⟩ | ⟨_,_,_,h0,_⟩
  ·cases h0
  ·cases h0;rfl
 subst hn;have hk2:∀b,b≠g→(w.setCell ⟨g,j * 33+k,none⟩ u.1).heap[b]?=w.heap[b]?:=fun b hb=>Gu _ _ _ _ hb;refine ⟨h.row.ai (Ot (h.nS hT g rfl)) _ _,?_,?_,?_,h.ds,aM h.low _ (aJ h.b0 hlt.1) _,h.b0,h.pbl,by simpa using h.bw⟩
 ·rw [qz,← zF L j s s' k u hj hk hs];exact OQ h.own _ _
 ·exact dF h.blk fun b hb _=>hk2 b (fun e=>FH h.own' h.own (by decide) b hb g rfl e)
 ·exact bg (fun r l d=>dF d fun b hb _=>hk2 b (fun e=>FH (dF d fun _ _ _=>rfl) h.own (by decide) b hb g rfl e)) h.ro
end
end
section
open Go Go.RowKit Mem
structure LnR (n g:Nat) (w w':World) (vs vi:OC) (G L:List St) (k:Nat):Prop where
 gr:w.grownBy w' (some g)
 hn:w.heap.size=n
 gl:g<n
 src:xG w' g G
 le:n+4≤w'.heap.size
 res:Row oV w' n 27 [on,on]
 blk:Row oV w' (n+2) 92 [vi]
 prg:Row oV w' (n+3) 27 [vs,afm (n+2) 1 1]
 own:w'.ownsRow (n+1) 98 33 vs.1 L.length (fE L)
 ints:Mem.Own iV w' (n+1) 3 vi.1 (nums k)
 hS:∀g,vs.1.ownBlock=some g→g≠n+2∧g≠n+3∧vi.1.ownBlock≠some g
 hI:∀g,vi.1.ownBlock=some g→g≠n+2∧g≠n+3
section
variable {n g0:Nat} {w w1 w2:World} {vs vi:OC} {G L:List St} {k:Nat}
theorem LnR.keep (h:LnR n g0 w w1 vs vi G L k) (hb:Below w1.heap.size w1 w2):LnR n g0 w w2 vs vi G L k:=
 ⟨h.gr.andThen (aY hb (some g0)) (fun _ e=> .inr e),h.hn,h.gl,h.src.below hb h.src.lt,aJ h.le hb.size,h.res.below hb h.res.lt,h.blk.below hb h.blk.lt,h.prg.below hb h.prg.lt,dF h.own fun g _ hl=>hb.block g hl,h.ints.below' hb,h.hS,h.hI⟩
end
end
section
open Go Go.RowKit Mem
section
variable {w1 W0 W1 W2:World} {g0 pb n:Nat} {vs vi:OC} {L:List St}
end
section
variable {w1 w w2:World} {B0 pb:Nat} {T T2:TypeId} {vs vb:OC} {ext l2:List OC} {L:List St} {R:List OC} {BL:List (List Int)}
theorem PV.grown (h:PV w1 B0 w pb T vs vb ext L R BL) {rb:Nat} (hr:Row oV w rb T2 l2) (OO:PvT T2) (hne:rb≠pb) (hG:w.grownBy w2 (some rb)) (hlo:w1.heap.size≤rb):PV w1 B0 w2 pb T vs vb ext L R BL:=by
 refine ⟨h.row.grown hG (fun e=>by injection e with e;exact hne e.symm),dF h.own fun b hb hl=>hG.block b hl fun e=>by injection e with e;exact tY h.own hr (Ot OO.1) b hb e,
  dF h.blk fun b hb hl=>hG.block b hl fun e=>by injection e with e;exact tY h.own' hr (Ot OO.2.1) b hb e,
  bg (fun q m d=>dF d fun b hb hl=>hG.block b hl fun e=>by injection e with e;exact tY (dF d fun _ _ _=>rfl) hr (Ot OO.2.2) b hb e) h.ro,h.ds,h.low.grown hG h.low.size (fun k e=>by cases e;exact hlo),h.b0,h.pbl,aJ h.bw hG.size⟩
end
end
section
open Go.RowKit Mem
theorem Mem.Own.dW {α:Type} {f:α→Value} {w w':World} {base:Nat} {e:TypeId} {v:Value} {l:List α} (h:Mem.Own f w base e v l) {row:Option Nat} (hg:w.grownBy w' row)
  (hr:∀g,v.ownBlock=some g→some g≠row):Mem.Own f w' base e v l:=by
 refine ⟨h.1,?_⟩;rcases h.2 with hn | ⟨g,cap,cur,rfl,hbg,hc,rest⟩
 ·exact .inl hn
 ·exact .inr ⟨g,cap,cur,rfl,hbg,(hg.block g (jB.1 hc).1 (hr g rfl)).trans hc,rest⟩
theorem Mem.Rd.dW {α:Type} {f:α→Value} {w w':World} {v:Value} {l:List α} (h:Rd f w v l) {row:Option Nat} (hg:w.grownBy w' row)
  (hr:∀g,v.ownBlock=some g→some g≠row):Rd f w' v l:=by
 rcases h with hn | ⟨b,o,cap,rfl,hc,ha,hlt⟩
 ·exact .inl hn
 ·exact .inr ⟨b,o,cap,rfl,hc,ha.grown hg hlt (hr b rfl),bJ hlt hg.size⟩
def exC (sb so sc bb bo bc mb:Nat) (nv fs ts av:OC):List OC:=[⟨.slice (some ⟨sb,so,none⟩) 1 sc,rfl⟩,⟨.slice (some ⟨bb,bo,none⟩) 1 bc,rfl⟩,⟨.slice (some ⟨mb,0,none⟩) 12 12,rfl⟩,nv,fs,ts,av]
end
section
open Go Go.RowKit Mem
def IP (b n c:Nat):OC:=⟨.slice (some ⟨b,0,none⟩) n c,rfl⟩
theorem jT {w W W':World} {o:Obj} (h:Below w.heap.size w W) (hG:(W.alloc o).grownBy W' (some W.heap.size)):Below w.heap.size w W':=
 (ah h (af _) o).grown hG (aJ h.size (by simp)) (fun k e=>by cases e;exact h.size)
theorem Jj {w:World} {b i:Nat} {t:TypeId} {v:Value} (h:Row oV w b t [on,on]) (hv:w.cell? ⟨b,i,none⟩=some v):v= .slice none 0 0:=by
 rw [h.cell?] at hv
 match i with
 | 0=>cases hv;rfl
 | 1=>cases hv;rfl
 | (k+2)=>cases hv
theorem FP.result {w w':World} {v:Value} {nm:ByteArray} {b:Nat} {t:TypeId} (h:FP w v nm) (hG:w.grownBy w' (some b)) (hr:Row oV w b t [on,on]):FP w' v nm:=by
 obtain ⟨sb,so,sc,bb,bo,bc,ib,io,ic,rfl,hcap,⟨h1,l1⟩,⟨h2,l2⟩,h3,l3⟩:=h
 have n1:some sb≠some b:=fun e=>by
  injection e with e;subst e
  have:=Jj hr (h1 0 (by rw [Qr];omega));cases this
 have n2:some bb≠some b:=fun e=>by
  injection e with e;subst e
  have:=Jj hr h2;cases this
 have n3:some ib≠some b:=fun e=>by
  injection e with e;subst e
  have:=Jj hr h3;cases this
 exact ⟨sb,so,sc,bb,bo,bc,ib,io,ic,rfl,hcap,⟨h1.grown hG l1 n1,bJ l1 hG.size⟩,⟨(o6 (a:=⟨bb,bo,none⟩) (hG.block bb l2 n2)).trans h2,bJ l2 hG.size⟩,(o6 (a:=⟨ib,io,none⟩) (hG.block ib l3 n3)).trans h3,bJ l3 hG.size⟩
end
section
open Go Go.RowKit Mem
section
variable {P:Program} {ops:Array Oper} {rest:List Oper} {o:Oper} {a:Act} {Q:Exit→Act→World→Prop} {w:World}
end
end
section
open Go Go.RowKit Mem
structure Nxt (B0:Nat) (w w':World) (K:XK) (V V':XV) (x':Ex):Prop where
 xw:XW B0 w' K V' x'
 upd:kH (Wr K V) w w'
 wr:∀g,Wr K V' g→Wr K V g∨w.heap.size≤g
theorem Nxt.IX {B0:Nat} {w W:World} {K:XK} {V:XV} {x:Ex} (h:XW B0 W K V x) (hb:Below w.heap.size w W) (i:Nat) (u:OC) (l:List UInt8) (hd:Dat W K V u l):
  Nxt B0 w (W.setCell ⟨K.mb,i,none⟩ u.1) K V {V with us:=V.us.set i u} {x with s:=x.s.set i l}:=
 ⟨h.IX i u l hd,(kH.of_below _ hb (af _)).set (.inl (.inr (.inl rfl))) i _,fun _ e=> .inl e⟩
end
section
open Go Go.RowKit Mem
section
variable {α:Type} {f:α→Value} {P:Program} {ops:Array Oper} {rest:List Oper} {o:Oper} {a:Act} {Q:Exit→Act→World→Prop} {w:World} {base:Nat} {e:TypeId} {v:Value} {l:List α}
theorem Qc {t:TypeId} {bytes:Nat} (E:lD P t e bytes) (s x:Operand) (hgd:o.guard=none) (ho:o.op= .call {callee:= .builtin .append,args:= #[s,x],argTypes:= #[t,t]})
  (h1:∀x,(f x).oneCell'=true) (hs:a.eval s=v) (hown:Mem.Own f w base e v l) (y:α) (u:Value) (hu:u=f y) (e1:TypeId) (hx:a.eval x= .slice (some ⟨w.heap.size,0,none⟩) 1 1)
  (hn:(l.length+1) * bytes≤140737488355328) (hn2:l.length+1≤140737488355328) (hbase:base≤w.heap.size) (r:List α) (hr:l++[y]=r)
  (h:∀p cap w',Mem.Own f w' base e (.slice p r.length cap) r→(w.alloc (.cells #[u] e1)).grownBy w' v.ownBlock→(∀g,(Value.slice p r.length cap).ownBlock=some g→v.ownBlock=some g∨w.heap.size+1≤g)→wpList P ops Q rest (a.put o.dst (.slice p r.length cap)) w'):
  wpList P ops Q (o::rest) a (w.alloc (.cells #[u] e1)):=by
 subst hu;have hr':Row f (w.alloc (.cells #[f y] e1)) w.heap.size e1 [y]:=Row.new _ _ rfl;obtain ⟨p,cap,w',hrun,h2,h3,h4⟩:=rO (ty:=o.type) E h1 (hown.alloc (.cells #[f y] e1)) w.heap.size 0 1 [y] hr'.at hn hn2 (by simp;omega) r hr;rw [bO] at h4;refine wpList_plain hgd fun K hK=> ?_;have hx':a.eval x= .slice (some ⟨w.heap.size,0,none⟩) [y].length 1:=hx;unfold Oper.wp;simp only [execOp,ho,resolve,invoke,builtin,dS,iE,fK,List.map_toArray,Fg,Q8,hs,hx',hrun];refine hK _ _ (h p cap w' h2 h3 fun g hg=> ?_);rcases h4 with h4 | h4
 ·exact .inl (h4▸hg)
 ·rw [hg] at h4;injection h4 with h4;exact .inr (by omega)
end
end
end Go.Proofs.YtncnfncglacheaaGreatDoor
