/- Part of a proof. -/
import Derived.Laws.StructEq
import Derived.ChangeKeysEq
import Derived.Test.YtncnfncglacheaaGreatDoorFIndex
import Derived.Great.Walk
import Derived.WalkMore
set_option linter.all false
set_option maxRecDepth 100000
set_option maxHeartbeats 64000000
namespace Go.Proofs.YtncnfncglacheaaGreatDoor
section
open Go Go.RowKit Mem
abbrev vU:=OI (Rd nV)
theorem vU.below' {w w':World} {v:Value} {l:List (List Nat)} (h:vU w v l) (hb:Below w.heap.size w w'):vU w' v l:=OI.below h hb fun _ _ h=>h.below hb
def dA (w:World) (v:Value) (D:DF):Prop:=∃vc vn va,v= .agg #[vc,vn,va]∧nu 4 aJ w vc D.cls∧vU w vn D.nx∧Rd Value.bool w va D.ac
theorem dA.below {w w':World} {v:Value} {D:DF} (h:dA w v D) (hb:Below w.heap.size w w'):dA w' v D:=by
 obtain ⟨vc,vn,va,rfl,h1,h2,h3⟩:=h;exact ⟨vc,vn,va,rfl,h1.below hb,vU.below' h2 hb,h3.below hb⟩
theorem WI (w:World) (c:Cl) (i:Nat) (x:Value) (h:(ax c)[i]?=some x):(part 63 (ax c) i).run Tryz.prog w= .ok x w:=by
 simp [part,h]
theorem IA (w:World) (x y:Cl) (i:Nat) (is:List Nat) (a b:Int) (hx:(ax x)[i]?=some (.int .u64 a)) (hy:(ax y)[i]?=some (.int .u64 b)):
  (Op.eqItems 9999 63 1 (ax x) (ax y) (i::is)).run Tryz.prog w=if (a==b)=true then (Op.eqItems 9999 63 1 (ax x) (ax y) is).run Tryz.prog w else .ok false w:=by
 have e:=run_equalIn_int (P:=Tryz.prog) w 9998 63 .u64 .u64 a b Tryz.underlying63;rw [Op.eqItems];cases hab:a==b<;>simp [dR,WI w x i _ hx,WI w y i _ hy,e,hab]
theorem Eg (w:World) (x y:Cl):(Op.equalIn 10000 65 (.agg (ax x)) (.agg (ax y))).run Tryz.prog w= .ok (X x.a==X y.a && (X x.b==X y.b && (X x.c==X y.c && X x.d==X y.d))) w:=by
 rw [run_equalIn_array w 9999 (ax x) (ax y) Tryz.underlying65 (i:=(Tryz.prog.info? 63).get (by kernel_rfl)) (by kernel_rfl)];rw [show List.range 4=[0,1,2,3] from rfl,show Tryz.prog.cellsOf 63=1 by kernel_rfl];rw [IA w x y 0 _ (X x.a) (X y.a) rfl rfl,IA w x y 1 _ (X x.b) (X y.b) rfl rfl,IA w x y 2 _ (X x.c) (X y.c) rfl rfl,IA w x y 3 _ (X x.d) (X y.d) rfl rfl];cases (X x.a==X y.a)<;>cases (X x.b==X y.b)<;>cases (X x.c==X y.c)<;>cases (X x.d==X y.d)<;>rfl
theorem Q0 (w:World) (x y:Cl) (h:x≠y):(binOp .eql 65 (.agg (ax x)) (.agg (ax y))).run Tryz.prog w= .ok (.bool false) w:=by
 rw [run_eql_struct,Eg]
 have:(X x.a==X y.a && (X x.b==X y.b && (X x.c==X y.c && X x.d==X y.d)))=false:=by
  rw [Bool.eq_false_iff];intro he;simp only [cZ,EE] at he;obtain ⟨h1,h2,h3,h4⟩:=he;apply h;obtain ⟨a,b,c,d⟩:=x;obtain ⟨a',b',c',d'⟩:=y;cases rZ h1;cases rZ h2;cases rZ h3;cases rZ h4;rfl
 rw [this];rfl
theorem Yc (w:World) (x y:Cl) (h:x≠y):(binOp .neq 65 (.agg (ax x)) (.agg (ax y))).run Tryz.prog w= .ok (.bool true) w:=by
 have h1:=Q0 w x y h;rw [run_eql_struct,Eg] at h1;rw [run_neq_struct,Eg];injection h1 with h2 _
 injection h2 with h2
 simp [Result.andThen,h2]
theorem adt (w:World) (x:Cl) (h:x≠bS):(Op.equalIn 10000 65 (.agg (ax x)) (.agg #[.int .u64 0, .int .u64 0, .int .u64 0, .int .u64 0])).run Tryz.prog w= .ok false w:=by
 have h1:=Q0 w x bS h;rw [run_eql_struct,Eg] at h1;injection h1 with h2 _
 injection h2 with h2
 have h3:=Eg w x bS;rw [h2] at h3;exact h3
theorem Rz (w:World):(Op.equalIn 10000 65 (.agg (ax bS)) (.agg #[.int .u64 0, .int .u64 0, .int .u64 0, .int .u64 0])).run Tryz.prog w= .ok true w:=by
 have h3:=Eg w bS bS;simp only [beq_self_eq_true,Bool.and_self] at h3;exact h3
theorem Rk:Tryz.prog.eqGuardType Tryz.prog.depth 65=false:=by kernel_rfl
def kX (l:List Cl) (k:Nat):Cl:=(l.take k).foldl Cl.union bS
structure DF.V (D:DF):Prop extends DF.Ok D where
 n64:D.nx.length≤64
 ne:∀c∈D.cls,c≠bS
 dj:∀k (h:k<D.cls.length),(kX D.cls k).inter D.cls[k]=bS
 un:(kX D.cls D.cls.length).non=bS
theorem QB (c:Cl) (i:Nat) (hi:i<256):c.non.mem i= !c.mem i:=by
 have h:∀x:UInt64,∀r,r<64→(~~~x).toNat.testBit r= !x.toNat.testBit r:=fun x r hr=>by
  rw [UInt64.toNat_not];rw [show UInt64.size - 1 - x.toNat=2 ^ 64 - (x.toNat+1) by simp [UInt64.size]];rw [Nat.testBit_two_pow_sub_succ (by have:=lX x;simpa using this)];simp [hr]
 unfold Cl.mem;have hr:=U9 i (show 64>0 by omega);have hq:i / 64<4:=by omega
 generalize i % 64=r at *;generalize i / 64=q at *
 match q,hq with
 | 0,_=>exact h c.a r hr
 | 1,_=>exact h c.b r hr
 | 2,_=>exact h c.c r hr
 | 3,_=>exact h c.d r hr
structure MS.Part (T:TB) (k:Nat) (st:MS):Prop where
 pos:∀b,b<k→0≤st.of.getD (T.cell.getD b 0) 0
 mem:∀i,i<st.cls.length→∀b,b<256→(st.cls.getD i bS).mem b=(decide (b<k) && decide (st.of.getD (T.cell.getD b 0) 0=(i:Int)))
 hit:∀i,i<st.cls.length→∃b,b<k∧st.of.getD (T.cell.getD b 0) 0=(i:Int)
theorem Iu {α:Type} (l m:List α) (i:Nat) (d:α) (h:i<l.length):(l++m).getD i d=l.getD i d:=by
 rw [dD,Ig h,dD]
theorem U8 {α:Type} (l:List α) (x d:α):(l++[x]).getD l.length d=x:=by
 rw [dD,Kk (ah _),Fu];rfl
theorem Ck {T:TB} (h:T.Ok) (block aG:List Nat):∀k,k≤256→(iK T block aG k).Part T k
 | 0,_=>⟨fun b hb=>by omega,fun i hi=>by simp [iK,ms0] at hi,fun i hi=>by simp [iK,ms0] at hi⟩
 | k+1,hk=>by
  have hk':k<256:=by omega
  have ho:=mD h block aG k (by omega);have hp:=Ck h block aG k (by omega);have hck:=kZ h k hk';have ⟨fo,f0⟩:=zO ho T.nx block aG hck;show (ym (jT T.nx block aG (iK T block aG k) (T.cell.getD k 0)) (T.cell.getD k 0) k).Part T (k+1);generalize iK T block aG k=st at *;generalize hc:T.cell.getD k 0=c at *;have hcl:c<st.of.length:=by rw [ho.ol];exact hck
  have hm:(∀b,b<k→(jT T.nx block aG st c).of.getD (T.cell.getD b 0) 0=st.of.getD (T.cell.getD b 0) 0)∧st.cls.length≤(jT T.nx block aG st c).cls.length∧(∀i,i<st.cls.length→(jT T.nx block aG st c).cls.getD i bS=st.cls.getD i bS)∧
    (∀i,st.cls.length≤i→i<(jT T.nx block aG st c).cls.length→(jT T.nx block aG st c).cls.getD i bS=bS∧(jT T.nx block aG st c).of.getD c 0=(i:Int)):=by
   have hne:st.of.getD c 0<0→∀b,b<k→∀z:Int,(st.of.set c z).getD (T.cell.getD b 0) 0=st.of.getD (T.cell.getD b 0) 0:=fun hn b hb z=>by
    rw [ig _ _ _ _ _ hcl,aF];intro e;have:=hp.pos b hb;rw [← e] at this;omega
   unfold jT;split
   ·rename_i hn;split
    ·exact ⟨fun b hb=>hne hn b hb _,ah _,fun _ _=>rfl,fun i h1 h2=>by simp only at h2;omega⟩
    ·refine ⟨fun b hb=>hne hn b hb _,by simp,fun i hi=>Iu _ _ _ _ hi,fun i h1 h2=> ?_⟩;simp only [fq,BH] at h2;have e:i=st.cls.length:=by omega
     subst e;refine ⟨U8 _ _ _,?_⟩;show (st.of.set c _).getD c 0=_;rw [ig _ _ _ _ _ hcl,aC rfl,ho.cc]
   ·exact ⟨fun _ _=>rfl,ah _,fun _ _=>rfl,fun i h1 h2=>by omega⟩
  obtain ⟨m1,m2,m3,m4⟩:=hm;generalize jT T.nx block aG st c=s1 at *;obtain ⟨j,hj⟩:∃j:Nat,s1.of.getD c 0=(j:Int):=⟨_,(qcZ f0).symm⟩
  have hjl:j<s1.cls.length:=by
   have:=fo.ob _ (aO s1.of c 0 (by rw [fo.ol];exact hck));rw [hj] at this;rw [fo.cc];omega
  have hof:(ym s1 c k).of=s1.of:=rfl
  have hcls:(ym s1 c k).cls=s1.cls.set j ((s1.cls.getD j bS).union (bS.add k)):=by
   unfold ym;simp only [hj,Sw]
  have hold:∀i,i<s1.cls.length→∀b,b<256→(s1.cls.getD i bS).mem b=(decide (b<k) && decide (s1.of.getD (T.cell.getD b 0) 0=(i:Int))):=fun i hi b hb=>by
   by_cases hil:i<st.cls.length
   ·rw [m3 i hil,hp.mem i hil b hb];by_cases hbk:b<k
    ·rw [m1 b hbk]
    ·simp [hbk]
   ·obtain ⟨e1,e2⟩:=m4 i (by omega) hi;rw [e1,oP];by_cases hbk:b<k
    ·rw [m1 b hbk];have:=ho.ob _ (aO st.of (T.cell.getD b 0) 0 (by rw [ho.ol];exact kZ h b hb))
     have hne:st.of.getD (T.cell.getD b 0) 0≠(i:Int):=by
      rw [← ho.cc] at this;omega
     rw [jI hne,qdC]
    ·simp [hbk]
  refine ⟨fun b hb=> ?_,fun i hi b hb=> ?_,fun i hi=> ?_⟩
  ·rw [hof];by_cases e:b=k
   ·subst e;rw [hc];exact f0
   ·rw [m1 b (by omega)];exact hp.pos b (by omega)
  ·rw [hcls,ru] at hi;rw [hcls,hof,ig _ _ _ _ _ hjl];by_cases e:j=i
   ·subst e;rw [aC rfl,Aw,Cl.RB _ _ _ hk' hb,oP,hold j hjl b hb];by_cases eb:b=k
    ·subst eb;rw [hc,hj];simp
    ·have:decide (b<k+1)=decide (b<k):=by
      rw [qdr];omega
     rw [this];simp [eb]
   ·rw [aF e,hold i hi b hb];by_cases eb:b=k
    ·subst eb;have hne:¬(j:Int)=(i:Int):=by omega
     rw [hc,hj];simp [hne]
    ·have:decide (b<k+1)=decide (b<k):=by
      rw [qdr];omega
     rw [this]
  ·rw [hcls,ru] at hi;rw [hof];by_cases hil:i<st.cls.length
   ·obtain ⟨b,h1,h2⟩:=hp.hit i hil;exact ⟨b,by omega,by rw [m1 b h1];exact h2⟩
   ·obtain ⟨_,e2⟩:=m4 i (by omega) hi;exact ⟨k,by omega,by rw [hc];exact e2⟩
theorem I4 (l:List Cl) (k i:Nat):(kX l k).mem i=(l.take k).any fun c=>c.mem i:=by
 unfold kX;rw [Fx,oP,Cz]
theorem TB.Ok.NY {T:TB} (h:T.Ok) (h64:T.canon.nx.length≤64):T.canon.V:=by
 have hp:=Ck h (T.refine T.reach).1 (T.refine T.reach).2 256 (ah _);have ho:=mD h (T.refine T.reach).1 (T.refine T.reach).2 256 (ah _);have hD:T.canon.cls=(iK T (T.refine T.reach).1 (T.refine T.reach).2 256).cls:=by simp only [TB.canon,I1,TB.merge]
 generalize iK T (T.refine T.reach).1 (T.refine T.reach).2 256=st at *;refine {toOk:=h.canon.1,n64:=h64,ne:= ?_,dj:= ?_,un:= ?_}
 ·rw [hD];intro c hc e;obtain ⟨i,hi,rfl⟩:=List.mem_iff_getElem.1 hc;obtain ⟨b,hb,h2⟩:=hp.hit i hi;have:=hp.mem i hi b hb;rw [dD,bM hi,qE,e,oP,h2] at this;simp [hb] at this
 ·rw [hD];intro k hk;refine Cl.ext_mem _ _ fun b hb=> ?_;rw [Ug,I4,oP];rw [Bool.and_eq_false_iff];by_cases hm:(st.cls[k]).mem b=true
  ·refine .inl ?_;rw [Bool.eq_false_iff];intro hany;obtain ⟨c,hc,hcm⟩:=qdu.1 hany;obtain ⟨i,hi,e⟩:=qdd.1 hc;subst e;have h1:=hp.mem i (by omega) b hb;have h2:=hp.mem k hk b hb;rw [dD,bM (by omega),qE,hcm] at h1;rw [dD,bM hk,qE,hm] at h2;have h1':=h1.symm;have h2':=h2.symm;rw [cZ,tT,tT] at h1' h2';have:=h1'.2.symm.trans h2'.2;omega
  ·exact .inr (by simpa using hm)
 ·rw [hD];refine Cl.ext_mem _ _ fun b hb=> ?_;rw [QB _ _ hb,I4,oP,Qr];rw [Bool.not_eq_false'];have h1:=hp.pos b hb;have h2:=ho.ob _ (aO _ (T.cell.getD b 0) 0 (by rw [ho.ol];exact kZ h b hb));obtain ⟨i,hi⟩:∃i:Nat,st.of.getD (T.cell.getD b 0) 0=(i:Int):=⟨_,(qcZ h1).symm⟩
  rw [hi,← ho.cc] at h2;have hil:i<st.cls.length:=by omega
  have h3:=hp.mem i hil b hb;rw [hi] at h3;refine qdu.2 ⟨_,aO _ i bS hil,?_⟩;rw [h3];simp [hb]
structure JS where
 ks:List (Nat×Nat)
 bs:List Nat
 cell:List Nat
def qG (c1 c2:List Nat) (st:JS) (x:Nat):JS:=
 if (c1.getD x 0,c2.getD x 0)∈st.ks then {st with cell:=st.cell.set x (st.ks.idxOf (c1.getD x 0,c2.getD x 0))} else ⟨st.ks++[(c1.getD x 0,c2.getD x 0)],st.bs++[x],st.cell.set x st.ks.length⟩
def iN (c1 c2:List Nat):Nat→JS
 | 0=>⟨[],[],List.replicate 256 0⟩
 | k+1=>qG c1 c2 (iN c1 c2 k) k
structure JS.Ok (k:Nat) (st:JS):Prop where
 bl:st.bs.length=st.ks.length
 le:st.bs.length≤k
 cl:st.cell.length=256
 bb:∀x∈st.bs,x<k
 cb:∀x∈st.cell,x<max 1 st.ks.length
theorem j5 (c1 c2:List Nat):∀k,k≤256→(iN c1 c2 k).Ok k
 | 0,_=>⟨rfl,ah _,by simp [iN],by simp [iN],fun x hx=>by rw [(XI.1 hx).2];show 0<max 1 0;omega⟩
 | k+1,hk=>by
  have h:=j5 c1 c2 k (by omega);show (qG c1 c2 (iN c1 c2 k) k).Ok (k+1);generalize iN c1 c2 k=st at *;unfold qG;split
  ·rename_i hm;have hid:=qck hm;refine ⟨h.bl,by have:=h.le;show st.bs.length≤_;omega,by rw [ru];exact h.cl,fun x hx=>by have:=h.bb x hx;omega,fun x hx=> ?_⟩;rcases SY hx with h' | rfl
   ·exact h.cb x h'
   ·show _<max 1 st.ks.length;omega
  ·refine ⟨by simp [h.bl],by simp only [fq,BH];have:=h.le;omega,by rw [ru];exact h.cl,fun x hx=> ?_,fun x hx=> ?_⟩
   ·rcases sj.1 hx with h' | h'
    ·have:=h.bb x h';omega
    ·rw [lS.1 h'];omega
   ·simp only [fq,BH];rcases SY hx with h' | rfl
    ·have:=h.cb x h';omega
    ·omega
theorem xN (c1 c2:List Nat):∀k,1≤(iN c1 c2 (k+1)).bs.length
 | 0=>by simp [iN,qG]
 | k+1=>by
  have:=xN c1 c2 k;show 1≤(qG c1 c2 (iN c1 c2 (k+1)) (k+1)).bs.length;unfold qG;split
  ·exact this
  ·simp
abbrev Sx:=Nat×Nat×UInt64
def jX:Sx:=(0,0,0)
structure XS where
 ks:List Sx
 row:List Nat
def Jq (m:Nat) (st:XS) (t:Sx):Option XS:=
 if t∈st.ks then some {st with row:=st.row++[st.ks.idxOf t]} else if st.ks.length=m then none else some ⟨st.ks++[t],st.row++[st.ks.length]⟩
def qM (m:Nat) (cB:Sx→Nat→Sx) (s:Sx) (bs:List Nat) (st:XS):Option XS:=bs.foldl (fun o c=>o.bind fun st=>Jq m st (cB s c)) (some st)
structure XA where
 ks:List Sx
 nx:List (List Nat)
 ac:List Bool
def xF (m:Nat) (cB:Sx→Nat→Sx) (acc:Sx→Bool) (bs:List Nat):Nat→Nat→XA→Option XA
 | 0,_,a=>some a
 | f+1,i,a=>if i<a.ks.length then (qM m cB (a.ks.getD i jX) bs ⟨a.ks,[]⟩).bind fun st=>xF m cB acc bs f (i+1) ⟨st.ks,a.nx++[st.row],a.ac++[acc (a.ks.getD i jX)]⟩ else some a
def vP (cell bs:List Nat) (start:Sx) (cB:Sx→Nat→Sx) (acc:Sx→Bool) (m K:Nat):Option TB:=(xF m cB acc bs K 0 ⟨[start],[],[]⟩).map fun a=>⟨cell,bs.length,a.nx,a.ac⟩
theorem Xe (m:Nat) (cB:Sx→Nat→Sx) (s:Sx) (st:XS):qM m cB s [] st=some st:=rfl
theorem JR (m:Nat) (cB:Sx→Nat→Sx) (s:Sx):∀bs:List Nat,bs.foldl (fun o c=>o.bind fun st=>Jq m st (cB s c)) (none:Option XS)=none
 | []=>rfl
 | _::bs=>JR m cB s bs
theorem IX (m:Nat) (cB:Sx→Nat→Sx) (s:Sx) (bs:List Nat) (st:XS) (j:Nat) (hj:j<bs.length):qM m cB s (bs.take (j+1)) st=(qM m cB s (bs.take j) st).bind fun x=>Jq m x (cB s bs[j]):=by
 unfold qM;rw [dG _ _ _ _ hj]
theorem TJ (m:Nat) (cB:Sx→Nat→Sx) (s:Sx) (bs:List Nat) (st:XS) (j:Nat) (hn:qM m cB s (bs.take j) st=none):qM m cB s bs st=none:=by
 conv=>lhs;rw [← qcO j bs]
 unfold qM at hn ⊢;rw [SV,hn,JR]
structure XOk (ok:Sx→Prop) (m:Nat) (ks:List Sx):Prop where
 nd:ks.Nodup
 ok:∀s∈ks,ok s
 le:ks.length≤m
 ne:1≤ks.length
structure XS.Ok (ok:Sx→Prop) (m:Nat) (st:XS):Prop extends XOk ok m st.ks where
 rb:∀x∈st.row,x<st.ks.length
theorem Ki {ok:Sx→Prop} {m:Nat} {st st':XS} (h:st.Ok ok m) {t:Sx} (ht:ok t) (hp:Jq m st t=some st'):st'.Ok ok m∧st'.row.length=st.row.length+1∧st.ks.length≤st'.ks.length:=by
 unfold Jq at hp;split at hp
 ·rename_i hm;have hid:=qck hm;injection hp with hp
  subst hp;refine ⟨{toXOk:=h.toXOk,rb:=fun x hx=> ?_},by simp,ah _⟩;rcases sj.1 hx with h' | h'
  ·exact h.rb x h'
  ·rw [lS.1 h'];exact hid
 ·rename_i hm;split at hp
  ·cases hp
  ·rename_i hl;injection hp with hp
   subst hp;have hle:=h.le;refine ⟨{nd:=qdl.2 ⟨h.nd,by simp,fun a ha b hb e=>hm (by rw [← lS.1 hb,← e];exact ha)⟩,ok:=fun s hs=> ?_,le:=by simp;omega,ne:=by simp,rb:=fun x hx=> ?_},by simp,by simp⟩
   ·rcases sj.1 hs with h' | h'
    ·exact h.ok s h'
    ·rw [lS.1 h'];exact ht
   ·simp only [fq,BH];rcases sj.1 hx with h' | h'
    ·have:=h.rb x h';omega
    ·rw [lS.1 h'];omega
theorem RP {ok:Sx→Prop} {m:Nat} {cB:Sx→Nat→Sx} {s:Sx} {bs:List Nat} (hn:∀c∈bs,ok (cB s c)) {st:XS} (h:st.Ok ok m) (hr:st.row=[]):
  ∀(j:Nat) (st':XS),j≤bs.length→qM m cB s (bs.take j) st=some st'→st'.Ok ok m∧st'.row.length=j∧st.ks.length≤st'.ks.length
 | 0,st',_,e=>by
  rw [List.take_zero,Xe] at e;injection e with e
  subst e;exact ⟨h,by rw [hr];rfl,ah _⟩
 | j+1,st',hj,e=>by
  rw [IX _ _ _ _ _ _ hj] at e;obtain ⟨st1,e1,e2⟩:=qdk.1 e;obtain ⟨h1,h2,h3⟩:=RP hn h hr j st1 (by omega) e1;obtain ⟨g1,g2,g3⟩:=Ki h1 (hn _ (pJ hj)) e2;exact ⟨g1,by rw [g2,h2],by omega⟩
structure XA.Ok (ok:Sx→Prop) (m n i:Nat) (a:XA):Prop extends XOk ok m a.ks where
 il:i≤a.ks.length
 nl:a.nx.length=i
 al:a.ac.length=i
 rl:∀r∈a.nx,r.length=n
 rb:∀r∈a.nx,∀t∈r,t<a.ks.length
theorem Tj {ok:Sx→Prop} {m i:Nat} {cB:Sx→Nat→Sx} {bs:List Nat} {a:XA} (h:a.Ok ok m bs.length i) (hn:∀s,ok s→∀c∈bs,ok (cB s c)) (hi:i<a.ks.length) {st:XS} (e:qM m cB (a.ks.getD i jX) bs ⟨a.ks,[]⟩=some st) (z:Bool):
  XA.Ok ok m bs.length (i+1) ⟨st.ks,a.nx++[st.row],a.ac++[z]⟩:=by
 have hs:=h.ok _ (aO a.ks i jX hi);obtain ⟨h1,h2,h3⟩:=RP (st:=⟨a.ks,[]⟩) (hn _ hs) {toXOk:=h.toXOk,rb:=by simp} rfl bs.length st (ah _) (by rw [Qr];exact e);refine {toXOk:=h1.toXOk,il:=by simp only at h3;show i+1≤st.ks.length;omega,nl:=by simp [h.nl],al:=by simp [h.al],rl:=fun r hr=> ?_,rb:=fun r hr t ht=> ?_}
 ·rcases sj.1 hr with h' | h'
  ·exact h.rl r h'
  ·rw [lS.1 h'];exact h2
 ·show t<st.ks.length;rcases sj.1 hr with h' | h'
  ·have:=h.rb r h' t ht;simp only at h3;omega
  ·rw [lS.1 h'] at ht;exact h1.rb t ht
theorem VI {ok:Sx→Prop} {m n:Nat} {start:Sx} (hs:ok start) (hm:1≤m):XA.Ok ok m n 0 ⟨[start],[],[]⟩:=
 {nd:=by simp,ok:=by simp only [lS];rintro s rfl;exact hs,le:=hm,ne:=by simp,il:=Mg _,nl:=rfl,al:=rfl,rl:=by simp,rb:=by simp}
theorem abM {ok:Sx→Prop} {m K:Nat} {cB:Sx→Nat→Sx} {acc:Sx→Bool} {bs:List Nat} (hn:∀s,ok s→∀c∈bs,ok (cB s c)) (hK:∀l:List Sx,XOk ok m l→l.length≤K):
  ∀(f i:Nat) (a b:XA),a.Ok ok m bs.length i→K≤f+i→xF m cB acc bs f i a=some b→∃k,b.Ok ok m bs.length k∧k=b.ks.length
 | 0,i,a,b,h,hf,e=>by
  injection e with e
  subst e;exact ⟨i,h,by have:=hK _ h.toXOk;have:=h.il;omega⟩
 | f+1,i,a,b,h,hf,e=>by
  unfold xF at e;split at e
  ·rename_i hi;obtain ⟨st,e1,e2⟩:=qdk.1 e;exact abM hn hK f _ _ b (Tj h hn hi e1 _) (by omega) e2
  ·rename_i hi;injection e with e
   subst e;exact ⟨i,h,by have:=h.il;omega⟩
theorem Ri (m:Nat) (cB:Sx→Nat→Sx) (acc:Sx→Bool) (bs:List Nat) (n i:Nat) (a:XA) (h:i<a.ks.length) (hn:a.ks.length≤n):
  xF m cB acc bs (n - i) i a=(qM m cB (a.ks.getD i jX) bs ⟨a.ks,[]⟩).bind fun st=>xF m cB acc bs (n - (i+1)) (i+1) ⟨st.ks,a.nx++[st.row],a.ac++[acc (a.ks.getD i jX)]⟩:=by
 rw [show n - i=(n - (i+1))+1 by omega,xF,aC h]
theorem adj (m:Nat) (cB:Sx→Nat→Sx) (acc:Sx→Bool) (bs:List Nat) (f i:Nat) (a:XA) (h:a.ks.length≤i):xF m cB acc bs f i a=some a:=by
 cases f with
 | zero=>rfl
 | succ f=>rw [xF,aF (by omega)]
theorem Dv {ok:Sx→Prop} {m K:Nat} {cB:Sx→Nat→Sx} {acc:Sx→Bool} {cell bs:List Nat} {start:Sx} (hs:ok start) (hm:1≤m) (hn:∀s,ok s→∀c∈bs,ok (cB s c)) (hK:∀l:List Sx,XOk ok m l→l.length≤K) (Zn:K≤65535)
  (hc:cell.length=256) (hb:bs.length≤256) (hcb:∀x∈cell,x<bs.length) {T:TB} (e:vP cell bs start cB acc m K=some T):T.Ok:=by
 unfold vP at e;obtain ⟨a,e1,rfl⟩:=Option.map_eq_some_iff.1 e;obtain ⟨k,h,rfl⟩:=abM hn hK K 0 _ a (VI hs hm) (by omega) e1;have hle:=hK _ h.toXOk;have hne:=h.ne;have hnl:=h.nl;exact ⟨hc,hb,hcb,by show 1≤a.nx.length;omega,by show a.nx.length≤_;omega,by show a.ac.length=a.nx.length;rw [h.nl,h.al],h.rl,fun r hr t ht=>by show t<a.nx.length;rw [hnl];exact h.rb r hr t ht⟩
def TB.to (T:TB) (s b:Nat):Nat:=(T.nx.getD s []).getD (T.cell.getD b 0) 0
def mU (s:UInt64) (q:Nat):Bool:=(s>>>UInt64.ofNat q) &&& 1==1
def Gm (T:TB) (s:UInt64) (b:Nat):Nat→UInt64
 | 0=>0
 | q+1=>if mU s q=true then Gm T s b q ||| ((1:UInt64)<<<UInt64.ofNat (T.to q b)) else Gm T s b q
def TB.targets (T:TB) (s:UInt64) (b:Nat):UInt64:=Gm T s b T.nx.length
def TB.some (T:TB) (s:UInt64):Bool:=(List.range T.nx.length).any fun q=>T.ac.getD q false && mU s q
def lim (T:TB):Except Nat DF:=if T.canon.nx.length≤64 then .ok T.canon else .error 2
def V4:Option TB→Except Nat DF
 | none=> .error 2
 | some T=>lim T
def BK (x y:TB):JS:=iN x.cell y.cell 256
def lN (A:DF):TB:=bT (bT A).canon
def uF (x:TB) (s:Sx):Sx:=if x.ac.getD s.1 false=true then (s.1,s.2.1,s.2.2 ||| 1) else s
def vN (x y:TB) (s:Sx) (c:Nat):Sx:=uF x (x.to s.1 c,0,y.targets s.2.2 c)
def QZ (x y:TB):Option TB:=vP (BK x y).cell (BK x y).bs (uF x jX) (vN x y) (fun s=>y.some s.2.2) 4096 4096
def DF.cat (A B:DF):Except Nat DF:=V4 (QZ (lN A) (lN B))
def vH (x:TB) (s:Sx) (c:Nat):Sx:=if x.some (x.targets s.2.2 c)=true then (0,0,x.targets s.2.2 c ||| 1) else (0,0,x.targets s.2.2 c)
def Fz (x:TB):Option TB:=vP (BK x x).cell (BK x x).bs (1,0,1) (vH x) (fun s=>s.1==1 || x.some s.2.2) 4096 4096
def DF.star (A:DF):Except Nat DF:=V4 (Fz (lN A))
def eU:TB:=⟨List.range 256,256,[List.replicate 256 1,List.replicate 256 1],[true,false]⟩
theorem Qv (l:List Cl) (k:Nat) (h:k<l.length):kX l (k+1)=(kX l k).union l[k]:=dG _ _ _ _ h
theorem II (w:World) (v:Value) (D:DF) (hv:dA w v D) (hV:D.V):Calls Tryz.prog 69 #[v] w fun e w'=>e= .returned (.bool true)∧Below w.heap.size w w':=by
 obtain ⟨vc,vn,va,rfl,h1,h2,h3⟩:=hv;obtain ⟨pc,kc,rfl⟩:=h1.slice;obtain ⟨pn,kn,rfl⟩:=h2.slice;obtain ⟨pa,ka,rfl⟩:=h3.slice;have HC:=af h1;have HN:=af h2;have HA:=af h3;have HV:=af hV;have hac:=hV.ac;obtain ⟨n,Hn⟩:∃n,Hid (D.nx.length=n):=⟨_,af rfl⟩
 obtain ⟨m,Hm⟩:∃n,Hid (D.cls.length=n):=⟨_,af rfl⟩
 rw [Hn.out] at hac HN ⊢;rw [hac] at HA ⊢;rw [Hm.out] at HC ⊢;have g1:1≤n:=by rw [← Hn.out];exact hV.n1
 have g2:n≤64:=by rw [← Hn.out];exact hV.n64
 have g3:1≤m:=by rw [← Hm.out];exact hV.c1
 have g4:m≤256:=by rw [← Hm.out];exact hV.mF
 clear h1 h2 h3 hV hac;have hD0:Row oV (w.alloc (.cells #[.slice pc m kc, .slice pn n kn, .slice pa n ka] 79)) w.heap.size 79 [⟨.slice pc m kc,rfl⟩,⟨.slice pn n kn,rfl⟩,⟨.slice pa n ka,rfl⟩]:=Row.new _ _ rfl;have hB0:Below w.heap.size w (w.alloc (.cells #[.slice pc m kc, .slice pn n kn, .slice pa n ka] 79)):=(au _ _).alloc (ah _) _;have hS0:(w.alloc (.cells #[.slice pc m kc, .slice pn n kn, .slice pa n ka] 79)).heap.size=w.heap.size+1:=bR _ _;have gq:=Rk;go_enter Tryz.func69,Tryz.ntmps69;go_upto_region 1 with (fail);generalize (w.alloc (.cells #[.slice pc m kc, .slice pn n kn, .slice pa n ka] 79))=W at hD0 hB0 hS0 ⊢;have c0:W.cell? ⟨w.heap.size,0,none⟩=some (.slice pc m kc):=by rw [hD0.cell?];rfl
 have c1:W.cell? ⟨w.heap.size,1,none⟩=some (.slice pn n kn):=by rw [hD0.cell?];rfl
 have c2:W.cell? ⟨w.heap.size,2,none⟩=some (.slice pa n ka):=by rw [hD0.cell?];rfl
 have b1:((n:Int) !=(n:Int))=false:=by simp
 have d1:decide ((n:Int)<1)=false:=by rw [Uw];omega
 have d2:decide ((64:Int)<(n:Int))=false:=by rw [Uw];omega
 have d3:decide ((m:Int)<1)=false:=by rw [Uw];omega
 have d4:decide ((256:Int)<(m:Int))=false:=by rw [Uw];omega
 have hS1:Row oV (W.alloc (.cells fV 65)) W.heap.size 65 (aJ (kX D.cls 0)):=Row.new _ _ rfl;have hD1:=hD0.alloc (.cells fV 65);have hB1:=ai hB0 (ah _) (.cells fV 65);have hs1:w.heap.size+2≤(W.alloc (.cells fV 65)).heap.size:=by rw [bR];omega
 rw [hS0] at hS1;go_upto_region 5 with (fail);clear c0 c1 c2;generalize (W.alloc (.cells fV 65))=W1 at hS1 hD1 hB1 hs1 ⊢;clear hD0 hB0 hS0;clear W;have HDR:Hid (Row oV W1 w.heap.size 79 [⟨.slice pc m kc,rfl⟩,⟨.slice pn n kn,rfl⟩,⟨.slice pa n ka,rfl⟩]):=af hD1;have c0:W1.cell? ⟨w.heap.size,0,none⟩=some (.slice pc m kc):=by rw [hD1.cell?];rfl
 obtain ⟨sb,hsb⟩:∃sb,w.heap.size+1=sb:=⟨_,rfl⟩
 have ag5:w.heap.size<sb:=by omega
 rw [hsb] at hS1 ⊢;replace hs1:sb+1≤W1.heap.size:=by omega
 clear hsb hD1;obtain ⟨db,hdb⟩:∃db,w.heap.size=db:=⟨_,rfl⟩
 rw [hdb] at hB1 ag5 c0 HDR ⊢;go_wp2_with fail
 go_loopw [42] (fun i wr=>∃k:Nat,k≤m∧i= .int .i64 k∧Row oV wr sb 65 (aJ (kX D.cls k))∧Below sb W1 wr) (fun i _=>m - (intOf i).toNat)
 case atStart=>exact ⟨0,by omega,rfl,hS1,au _ _⟩
 case round=>
  clear hS1 c0;obtain ⟨k,hk,rfl,hS,hX⟩:=hrel;by_cases hlt:k<m
  ·have hq:(k:Int)<(m:Int):=by omega
   have hkl:k<D.cls.length:=by rw [Hm.out];exact hlt
   have hXs:=hX.size;have hW1:Below w.heap.size w wr:=by rw [hdb];exact hB1.trans (hX.mono (by omega))
   obtain ⟨cb,co,rfl,hAt,_,hcl⟩:=HC.out.elem k hkl;have hA:=hAt.below hW1 hcl;have hne:=HV.out.ne _ (pJ hkl);have hdj:=HV.out.dj k hkl;have HS:=af (Qv D.cls k hkl);generalize D.cls[k]=c at *;generalize kX D.cls k=s0 at *;have he:=fun w:World=>adt w c hne;have hn:=Rz;have UY:=ai hX (by omega) (.cells fV 65);have hSB:=hS.alloc (.cells fV 65);have hsl:=hS.lt;have hz:Row oV (wr.alloc (.cells fV 65)) wr.heap.size 65 [ow 0,ow 0,ow 0,ow 0]:=Row.new _ _ rfl;have hc4:(ax c).size=4:=rfl
   go_upto_region 8 with (first
    | ((with_reducible refine zL hA ay rfl (C:=ax c) ?_))
    | ((with_reducible refine zS (l':=aJ c) hz ay ?_);(intro W6 hs6 dw gP)))
   have K3:Below sb W1 W6:=UY.grown dw (by have:=UY.size;omega) (fun k e=>by cases e;omega);have AP:=hSB.grown dw (by simp;omega);clear hz UY hSB hsl hA hAt hS dw gP hX hW1;generalize wr.heap.size=bx at hs6 hXs ⊢;have y0:W6.cell? ⟨bx,0,none⟩=some (.int .u64 (X c.a)):=by rw [hs6.cell?];rfl
   have y1:W6.cell? ⟨bx,1,none⟩=some (.int .u64 (X c.b)):=by rw [hs6.cell?];rfl
   have y2:W6.cell? ⟨bx,2,none⟩=some (.int .u64 (X c.c)):=by rw [hs6.cell?];rfl
   have y3:W6.cell? ⟨bx,3,none⟩=some (.int .u64 (X c.d)):=by rw [hs6.cell?];rfl
   have z0:W6.cell? ⟨sb,0,none⟩=some (.int .u64 (X s0.a)):=by rw [AP.cell?];rfl
   have z1:W6.cell? ⟨sb,1,none⟩=some (.int .u64 (X s0.b)):=by rw [AP.cell?];rfl
   have z2:W6.cell? ⟨sb,2,none⟩=some (.int .u64 (X s0.c)):=by rw [AP.cell?];rfl
   have z3:W6.cell? ⟨sb,3,none⟩=some (.int .u64 (X s0.d)):=by rw [AP.cell?];rfl
   clear wr;have hci:=RV W6 s0 c;rw [UD,hdj] at hci;have HCI:=af hci;clear hci;go_wp2_with fail;refine HCI.out.mono ?_;rintro e W7 ⟨rfl,gU⟩;have hsz:=K3.size;have UN:=K3.trans (gU.mono (by omega));have tN:=AP.below gU AP.lt;have hs7:=hs6.below gU hs6.lt;have HU:=af (Ja W7 s0 c);clear HCI y0 y1 y2 y3 z0 z1 z2 z3 K3 AP hs6 gU
   go_wp2_with (first
    | ((with_reducible refine zL tN.at ay rfl (C:=ax s0) ?_))
    | ((with_reducible refine zL hs7.at ay rfl (C:=ax c) ?_)))
   refine HU.out.mono ?_;rintro e W8 ⟨rfl,jC⟩;have ahy:=UN.size;have Zg:=UN.trans (jC.mono (by omega));have wY:=tN.below jC tN.lt;clear HU UN tN hs7 jC;go_wp2_with ((with_reducible refine zS (l':=aJ (s0.union c)) wY ay ?_);(intro W9 iO dB tY));have hX9:=Zg.grown dB (by have:=Zg.size;omega) (fun k e=>by cases e;omega);rw [← HS.out] at iO;clear Zg wY dB tY
   go_roundw
   case rel=>exact ⟨k+1,by omega,by go_num,iO,hX9⟩
   case measure=>simp [intOf];omega
  ·obtain rfl:k=m:=by omega
   have hun:=HV.out.un;rw [Hm.out] at hun;have hc:=aa8 wr (kX D.cls k);have hun':Cl.zip (fun x _=> ~~~x) (kX D.cls k) (kX D.cls k)=bS:=hun;rw [hun'] at hc;have Sm:=af hc;clear hun hun' hc;generalize kX D.cls k=s0 at *;have hn:=Rz;go_wp2_with ((with_reducible refine zL hS.at ay rfl (C:=ax s0) ?_));refine Sm.out.mono ?_;rintro e W2 ⟨rfl,hB2⟩;have hsz:=hX.size;have hX2:=hX.trans (hB2.mono (by omega));clear Sm hS hX hB2;have hD2:=HDR.out.below hX2 (by omega);have e1:W2.cell? ⟨db,1,none⟩=some (.slice pn n kn):=by rw [hD2.cell?];rfl
   have e0:∀X,Below W2.heap.size W2 X→X.cell? ⟨db,0,none⟩=some (.slice pc k kc):=fun X h=>by rw [(hD2.below h hD2.lt).cell?];rfl
   have U5:Hid (Below w.heap.size w W2):=af (by rw [hdb];exact hB1.trans (hX2.mono (by omega)));clear hX2 hD2 hsz;go_wp2_with fail
   go_loopw [8,67] (fun _ i wr=>∃j:Nat,j≤n∧i= .int .i64 j∧Below W2.heap.size W2 wr) (fun _ i _=>n - (intOf i).toNat)
   case atStart=>exact ⟨0,by omega,rfl,au _ _⟩
   case round=>
    clear e1;obtain ⟨j,hj,rfl,hX⟩:=hrel;by_cases hjn:j<n
    ·have hq:(j:Int)<(n:Int):=by omega
     have hjl:j<D.nx.length:=by rw [Hn.out];exact hjn
     have hW1:Below w.heap.size w wr:=U5.out.trans (hX.mono U5.out.size);obtain ⟨nb,no,u,rfl,hcu,hrow,_,hnl⟩:=HN.out.elem j hjl;have af3:wr.cell? ⟨nb,no+j,none⟩=some u:=(hW1.cell (p:=⟨nb,no+j,none⟩) hnl).trans hcu;have hrl:=HV.out.rw _ (pJ hjl);have hrb:=HV.out.rb _ (pJ hjl);rw [Hm.out] at hrl;rw [Hn.out] at hrb;have Px:=hrow.below hW1;generalize D.nx[j]=row at *;obtain ⟨pr,cr,rfl⟩:=Px.slice;rw [hrl] at Px af3;have HR:=af Px;have HRB:=af hrb;have Fg:=af hrl;have e0':=e0 wr hX;have b2:((k:Int) !=(k:Int))=false:=by simp
     clear hcu hrow Px hrb hrl hW1;go_wp2_with fail;obtain ⟨wo,Hwo⟩:∃wo:World,Hid (wo=wr):=⟨_,af rfl⟩
     go_loopw [10,79] (fun _ i wq=>∃q:Nat,q≤k∧i= .int .i64 q∧wq=wo) (fun _ i _=>k - (intOf i).toNat)
     case atStart=>exact ⟨0,by omega,rfl,Hwo.out.symm⟩
     case round=>
      obtain ⟨q,hqk,rfl,rfl⟩:=hrel;by_cases hlt:q<k
      ·have hq2:(q:Int)<(k:Int):=by omega
       obtain ⟨rb,ro,rfl,hct⟩:=iT HR.out q hlt;have ct:=hct _ (au _ _);rw [← Hwo.out] at ct;have ht:row.getD q 0<n:=HRB.out _ (aO _ _ _ (by rw [Fg.out];exact hlt));generalize row.getD q 0=t at *;have ht1:((t:Nat):Int)<(n:Int):=by omega
       have dt1:decide ((t:Int)<0)=false:=by rw [Uw];omega
       have dt2:decide ((n:Int)≤(t:Int))=false:=by rw [Uw];omega
       clear hct;go_wp2_with fail
       go_roundw
       case rel=>exact ⟨q+1,by omega,by go_num,trivial⟩
       case measure=>simp [intOf];omega
      ·have hq2:¬(q:Int)<(k:Int):=by omega
       go_wp2_with fail
       go_roundw
       case rel=>exact ⟨j+1,by omega,by go_num,by rw [Hwo.out];exact hX⟩
       case measure=>simp [intOf];omega
    ·have hq:¬(j:Int)<(n:Int):=by omega
     go_wp2;go_ret;have hfin:=U5.out.trans (hX.mono U5.out.size);rw [hdb] at hfin;exact ⟨rfl,hfin⟩
end
section
open Go Go.RowKit Mem
def fK (L:List St):List Value:=L.flatMap fun s=>s.cs.map oV
theorem GX (L:List St):(fK L).length=L.length * 33:=by
 induction L with
 | nil=>rfl
 | cons a l ih=>simp only [fK,Md,fq,fD,St.jD,nQ] at ih ⊢;omega
theorem OY (L:List St):∀(j:Nat) (s:St),L[j]?=some s→∀i,i<33→(fK L)[j * 33+i]?=(s.cs[i]?).map oV:=by
 induction L with
 | nil=>intro j s h;simp at h
 | cons a l ih=>
  intro j s h i hi;have hc:fK (a::l)=(a.cs.map oV)++fK l:=by simp [fK]
  rw [hc];cases j with
  | zero=>
   simp only [YB,az] at h;subst h;rw [Ig (by rw [fD,St.jD];omega),Ty,nR,jS]
  | succ j=>
   rw [Kk (by rw [fD,St.jD];omega),fD,St.jD,show (j+1) * 33+i - 33=j * 33+i by omega];exact ih j s (by simpa using h) i hi
def yj (w:World) (g:Nat) (L:List St):Prop:=∃cur,w.heap[g]?=some (.cells cur 98 (0,0))∧L.length * 33≤cur.size∧∀j s,L[j]?=some s→∀i,i<33→cur[j * 33+i]?=(s.cs[i]?).map oV
theorem yj.lt {w:World} {g:Nat} {L:List St} (h:yj w g L):g<w.heap.size:=by obtain ⟨cur,hg,_⟩:=h;exact (jg.1 hg).1
theorem yj.block {w w':World} {g:Nat} {L:List St} (h:yj w g L) (hb:w'.heap[g]?=w.heap[g]?):yj w' g L:=by obtain ⟨cur,hg,h2⟩:=h;exact ⟨cur,hb.trans hg,h2⟩
theorem yj.below {w w':World} {B g:Nat} {L:List St} (h:yj w g L) (hb:Below B w w') (hB:g<B):yj w' g L:=h.block (hb.block g hB)
theorem yj.at {w:World} {g:Nat} {L:List St} (h:yj w g L) (j:Nat) (s:St) (hj:L[j]?=some s):At oV w g (j * 33) s.cs:=by
 obtain ⟨cur,hg,_,hc⟩:=h;intro i hi;rw [St.jD] at hi;unfold World.cell?;rw [hg];exact hc j s hj i hi
theorem yj.new (w:World) (L:List St):yj (w.alloc (.cells (fK L).toArray 98)) w.heap.size L:=
 ⟨_,World.alloc_heap_new _ _,by rw [AZ,GX];exact ah _,fun j s hj i hi=>by rw [qcl];exact OY L j s hj i hi⟩
theorem yj.set {w:World} {g:Nat} {L:List St} (h:yj w g L) (j:Nat) (s s':St) (k:Nat) (u:OC) (hj:L[j]?=some s) (hk:k<33) (hs:s'.cs=s.cs.set k u):yj (w.setCell ⟨g,j * 33+k,none⟩ u.1) g (L.set j s'):=by
 obtain ⟨cur,hg,hl,hc⟩:=h;have hjl:j<L.length:=(Kj.1 hj).1;have hgl:g<w.heap.size:=(jg.1 hg).1;refine ⟨cur.setIfInBounds (j * 33+k) u.1,?_,by rw [qcD,ru];exact hl,?_⟩
 ·simp only [World.setCell];rw [Mx,aC rfl,hg];rfl
 ·intro j' s1 hj' i hi;rw [Us];by_cases he:j=j'
  ·subst he;rw [List.getElem?_set_self hjl] at hj';cases hj';rw [hs];by_cases hki:k=i
   ·subst hki;rw [aC rfl,aC (by omega),List.getElem?_set_self (by rw [St.jD];exact hk)];rfl
   ·rw [aF (by omega),List.getElem?_set_ne hki];exact hc j s hj i hi
  ·rw [List.getElem?_set_ne he] at hj';rw [aF (by omega)];exact hc j' s1 hj' i hi
theorem yj.frozen {w:World} {g:Nat} {L:List St} (h:yj w g L) (i:Nat):w.frozen? ⟨g,i,none⟩=false:=by
 obtain ⟨cur,hg,_⟩:=h;unfold World.frozen?;rw [hg];simp
section
variable {P:Program} {ops:Array Oper} {rest:List Oper} {o:Oper} {a:Act} {Q:Exit→Act→World→Prop} {w:World} {base:Nat} {e:TypeId} {v:Value}
end
end
section
open Go Go.RowKit Mem
def nums (n:Nat):List Int:=(List.range n).map Int.ofNat
def agv (g n c:Nat):OC:=⟨.slice (some ⟨g,0,none⟩) n c,rfl⟩
section
variable {P:Program} {ops:Array Oper} {rest:List Oper} {o:Oper} {a:Act} {Q:Exit→Act→World→Prop} {w:World} {base:Nat} {e:TypeId} {v:Value}
end
theorem Ov {w:World} {base:Nat} {e:TypeId} {size:Nat} {g n c:Nat} {xs:List Value} (h:w.ownsRow base e size (.slice (some ⟨g,0,none⟩) n c) n xs) (i:Nat) (v:Value):(w.setCell ⟨g,i,none⟩ v).ownsRow base e size (.slice (some ⟨g,0,none⟩) n c) n (xs.set i v):=by
 refine ⟨by rw [ru];exact h.1,?_⟩;rcases h.2 with ⟨h0,_⟩ | ⟨g',cap,cur,he,hb,hg,hc,hm,hs,ht⟩
 ·cases h0
 ·cases he;refine .inr ⟨g,c,cur.setIfInBounds i v,rfl,hb,?_,hc,hm,by rw [qcD];exact hs,?_⟩
  ·simp only [World.setCell];rw [Mx,aC rfl,hg];rfl
  ·rw [qcT,List.take_set,ht]
theorem uA {α:Type} {f:α→Value} {w:World} {base:Nat} {e:TypeId} {size:Nat} {v:Value} {n:Nat} {xs:List Value} (h:w.ownsRow base e size v n xs) {b:Nat} {t:TypeId} {l:List α} (hr:Row f w b t l) (hne:e≠t):∀g,v.ownBlock=some g→g≠b:=by
 rintro g hg rfl;rcases h.2 with ⟨h0,_⟩ | ⟨g',cap,cur,he,_,hc,_⟩
 ·rw [h0] at hg;cases hg
 ·rw [he] at hg;cases hg;unfold Row at hr;rw [hr] at hc;cases hc;exact hne rfl
theorem GA {w:World} {base afk:Nat} {e e2:TypeId} {size afl:Nat} {v v2:Value} {n n2:Nat} {xs xs2:List Value} (h:w.ownsRow base e size v n xs) (h2:w.ownsRow afk e2 afl v2 n2 xs2) (hne:e≠e2):∀g,v.ownBlock=some g→∀g2,v2.ownBlock=some g2→g≠g2:=by
 rintro g hg g2 hg2 rfl;rcases h.2 with ⟨h0,_⟩ | ⟨g',cap,cur,he,_,hc,_⟩
 ·rw [h0] at hg;cases hg
 ·rcases h2.2 with ⟨h0,_⟩ | ⟨g'',cap',cur',he',_,hc',_⟩
  ·rw [h0] at hg2;cases hg2
  ·rw [he] at hg;rw [he'] at hg2;cases hg;cases hg2;rw [hc] at hc';cases hc';exact hne rfl
end
section
open Go Go.RowKit Mem
theorem oU (s:St) (L:List St):fK (s::L)=s.cs.map oV++fK L:=by simp [fK]
theorem Ab:∀(L:List St) (j:Nat) (s s':St) (k:Nat) (u:OC),L[j]?=some s→k<33→s'.cs=s.cs.set k u→(fK L).set (j * 33+k) u.1=fK (L.set j s')
 | [],j,s,s',k,u,hj,_,_=>by simp at hj
 | a::l,0,s,s',k,u,hj,hk,hs=>by
  have he:a=s:=by simpa using hj
  subst he;show (fK (a::l)).set (0 * 33+k) u.1=fK (s'::l);rw [oU,oU,Ty,nR,List.set_append_left _ _ (by rw [fD,St.jD];exact hk),hs,TW];rfl
 | a::l,j+1,s,s',k,u,hj,hk,hs=>by
  have ih:=Ab l j s s' k u (by simpa using hj) hk hs;show (fK (a::l)).set ((j+1) * 33+k) u.1=fK (a::l.set j s');rw [oU,oU,H9 _ _ (by rw [fD,St.jD];omega),fD,St.jD,show (j+1) * 33+k - 33=j * 33+k by omega,ih]
structure PV (w1:World) (B0:Nat) (w:World) (pb:Nat) (T:TypeId) (vs vb:OC) (ext:List OC) (L:List St) (R:List OC) (BL:List (List Int)):Prop where
 row:Row oV w pb T (vs::vb::ext)
 own:w.ownsRow B0 98 33 vs.1 L.length (fK L)
 blk:Mem.Own oV w B0 92 vb.1 R
 ro:F2 (fun (r:OC) (l:List Int)=>Mem.Own iV w B0 3 r.1 l) R BL
 ds:∀i j,i<R.length→j<R.length→i≠j→∀g,(R.getD i on).1.ownBlock=some g→(R.getD j on).1.ownBlock≠some g
 low:Below w1.heap.size w1 w
 b0:w1.heap.size≤B0
 pbl:w1.heap.size≤pb
 bw:B0≤w.heap.size
def PvT (T:TypeId):Prop:=T≠98∧T≠92∧T≠3
theorem Wt {α β:Type} {R:α→β→Prop}:∀{l:List α} {m:List β},F2 R l m→∀(i:Nat) (a:α),l[i]?=some a→∃b,m[i]?=some b∧R a b
 | _,_, .cons h _,0,a,ha=>by cases ha;exact ⟨_,rfl,h⟩
 | _,_, .cons _ t,i+1,a,ha=>Wt t i a (by simpa using ha)
theorem R9 {α β:Type} {R:α→β→Prop}:∀{l:List α} {m:List β},F2 R l m→∀(i:Nat) (b:β),m[i]?=some b→∃a,l[i]?=some a∧R a b
 | _,_, .cons h _,0,b,hb=>by cases hb;exact ⟨_,rfl,h⟩
 | _,_, .cons _ t,i+1,b,hb=>R9 t i b (by simpa using hb)
section
variable {w1 w w2:World} {B0 pb g c:Nat} {T:TypeId} {vs vb:OC} {ext:List OC} {L:List St} {R:List OC} {BL:List (List Int)}
theorem PV.own' (h:PV w1 B0 w pb T vs vb ext L R BL):w.ownsRow B0 92 1 vb.1 R.length (R.map oV):=h.blk
theorem PV.keep (h:PV w1 B0 w pb T vs vb ext L R BL) (hb:Below w.heap.size w w2):PV w1 B0 w2 pb T vs vb ext L R BL:=
 ⟨h.row.below hb h.row.lt,dL h.own fun g _ hl=>hb.block g hl,h.blk.below' hb,bE (fun _ _ d=>d.below' hb) h.ro,h.ds,h.low.trans (hb.mono h.low.size),h.b0,h.pbl,aL h.bw hb.size⟩
theorem PV.nS (h:PV w1 B0 w pb T vs vb ext L R BL) (hT:PvT T):∀g,vs.1.ownBlock=some g→g≠pb:=uA h.own h.row (PT hT.1)
theorem PV.Kw {n:Nat} (h:PV w1 B0 w pb T ⟨.slice (some ⟨g,0,none⟩) n c,rfl⟩ vb ext L R BL) (hT:PvT T) (j:Nat) (s s':St) (k:Nat) (u:OC) (hj:L[j]?=some s) (hk:k<33) (hs:s'.cs=s.cs.set k u):PV w1 B0 (w.setCell ⟨g,j * 33+k,none⟩ u.1) pb T ⟨.slice (some ⟨g,0,none⟩) n c,rfl⟩ vb ext (L.set j s') R BL:=by
 have hlt:=World.ownsRow.lt h.own g rfl
 have hn:n=L.length:=by
  rcases h.own.2 with ⟨h0,_⟩ | ⟨_,_,_,h0,_⟩
  ·cases h0
  ·cases h0;rfl
 subst hn;have hk2:∀b,b≠g→(w.setCell ⟨g,j * 33+k,none⟩ u.1).heap[b]?=w.heap[b]?:=fun b hb=>G9 _ _ _ _ hb;refine ⟨h.row.aj (PT (h.nS hT g rfl)) _ _,?_,?_,?_,h.ds,aQ h.low _ (aL h.b0 hlt.1) _,h.b0,h.pbl,by simpa using h.bw⟩
 ·rw [ru,← Ab L j s s' k u hj hk hs];exact Ov h.own _ _
 ·exact dL h.blk fun b hb _=>hk2 b (fun e=>GA h.own' h.own (by decide) b hb g rfl e)
 ·exact bE (fun r l d=>dL d fun b hb _=>hk2 b (fun e=>GA (dL d fun _ _ _=>rfl) h.own (by decide) b hb g rfl e)) h.ro
end
end
section
open Go Go.RowKit Mem
structure LnR (n g:Nat) (w w':World) (vs vi:OC) (G L:List St) (k:Nat):Prop where
 gr:w.grownBy w' (some g)
 hn:w.heap.size=n
 gl:g<n
 src:yj w' g G
 le:n+4≤w'.heap.size
 res:Row oV w' n 27 [on,on]
 blk:Row oV w' (n+2) 92 [vi]
 prg:Row oV w' (n+3) 27 [vs,agv (n+2) 1 1]
 own:w'.ownsRow (n+1) 98 33 vs.1 L.length (fK L)
 ints:Mem.Own iV w' (n+1) 3 vi.1 (nums k)
 hS:∀g,vs.1.ownBlock=some g→g≠n+2∧g≠n+3∧vi.1.ownBlock≠some g
 hI:∀g,vi.1.ownBlock=some g→g≠n+2∧g≠n+3
section
variable {n g0:Nat} {w w1 w2:World} {vs vi:OC} {G L:List St} {k:Nat}
theorem LnR.keep (h:LnR n g0 w w1 vs vi G L k) (hb:Below w1.heap.size w1 w2):LnR n g0 w w2 vs vi G L k:=
 ⟨h.gr.andThen (bf hb (some g0)) (fun _ e=> .inr e),h.hn,h.gl,h.src.below hb h.src.lt,aL h.le hb.size,h.res.below hb h.res.lt,h.blk.below hb h.blk.lt,h.prg.below hb h.prg.lt,dL h.own fun g _ hl=>hb.block g hl,h.ints.below' hb,h.hS,h.hI⟩
end
end
section
open Go Go.RowKit Mem
section
variable {w1 W0 W1 W2:World} {g0 pb n:Nat} {vs vi:OC} {L:List St}
end
section
variable {w1 w w2:World} {B0 pb:Nat} {T T2:TypeId} {vs vb:OC} {ext l2:List OC} {L:List St} {R:List OC} {BL:List (List Int)}
theorem PV.grown (h:PV w1 B0 w pb T vs vb ext L R BL) {rb:Nat} (hr:Row oV w rb T2 l2) (P5:PvT T2) (hne:rb≠pb) (hG:w.grownBy w2 (some rb)) (hlo:w1.heap.size≤rb):PV w1 B0 w2 pb T vs vb ext L R BL:=by
 refine ⟨h.row.grown hG (fun e=>by injection e with e;exact hne e.symm),dL h.own fun b hb hl=>hG.block b hl fun e=>by injection e with e;exact uA h.own hr (PT P5.1) b hb e,
  dL h.blk fun b hb hl=>hG.block b hl fun e=>by injection e with e;exact uA h.own' hr (PT P5.2.1) b hb e,
  bE (fun q m d=>dL d fun b hb hl=>hG.block b hl fun e=>by injection e with e;exact uA (dL d fun _ _ _=>rfl) hr (PT P5.2.2) b hb e) h.ro,h.ds,h.low.grown hG h.low.size (fun k e=>by cases e;exact hlo),h.b0,h.pbl,aL h.bw hG.size⟩
end
end
section
open Go.RowKit Mem
theorem Mem.Own.dK {α:Type} {f:α→Value} {w w':World} {base:Nat} {e:TypeId} {v:Value} {l:List α} (h:Mem.Own f w base e v l) {row:Option Nat} (hg:w.grownBy w' row)
  (hr:∀g,v.ownBlock=some g→some g≠row):Mem.Own f w' base e v l:=by
 refine ⟨h.1,?_⟩;rcases h.2 with hn | ⟨g,cap,cur,rfl,hbg,hc,rest⟩
 ·exact .inl hn
 ·exact .inr ⟨g,cap,cur,rfl,hbg,(hg.block g (jg.1 hc).1 (hr g rfl)).trans hc,rest⟩
theorem Mem.Rd.dK {α:Type} {f:α→Value} {w w':World} {v:Value} {l:List α} (h:Rd f w v l) {row:Option Nat} (hg:w.grownBy w' row)
  (hr:∀g,v.ownBlock=some g→some g≠row):Rd f w' v l:=by
 rcases h with hn | ⟨b,o,cap,rfl,hc,ha,hlt⟩
 ·exact .inl hn
 ·exact .inr ⟨b,o,cap,rfl,hc,ha.grown hg hlt (hr b rfl),bO hlt hg.size⟩
def exC (sb so sc bb bo bc mb:Nat) (nv fs ts av:OC):List OC:=[⟨.slice (some ⟨sb,so,none⟩) 1 sc,rfl⟩,⟨.slice (some ⟨bb,bo,none⟩) 1 bc,rfl⟩,⟨.slice (some ⟨mb,0,none⟩) 12 12,rfl⟩,nv,fs,ts,av]
end
section
open Go Go.RowKit Mem
def qz (b n c:Nat):OC:=⟨.slice (some ⟨b,0,none⟩) n c,rfl⟩
theorem j6 {w W W':World} {o:Obj} (h:Below w.heap.size w W) (hG:(W.alloc o).grownBy W' (some W.heap.size)):Below w.heap.size w W':=
 (ai h (ah _) o).grown hG (aL h.size (by simp)) (fun k e=>by cases e;exact h.size)
theorem Kl {w:World} {b i:Nat} {t:TypeId} {v:Value} (h:Row oV w b t [on,on]) (hv:w.cell? ⟨b,i,none⟩=some v):v= .slice none 0 0:=by
 rw [h.cell?] at hv
 match i with
 | 0=>cases hv;rfl
 | 1=>cases hv;rfl
 | (k+2)=>cases hv
theorem FP.result {w w':World} {v:Value} {nm:ByteArray} {b:Nat} {t:TypeId} (h:FP w v nm) (hG:w.grownBy w' (some b)) (hr:Row oV w b t [on,on]):FP w' v nm:=by
 obtain ⟨sb,so,sc,bb,bo,bc,ib,io,ic,rfl,hcap,⟨h1,l1⟩,⟨h2,l2⟩,h3,l3⟩:=h
 have n1:some sb≠some b:=fun e=>by
  injection e with e;subst e
  have:=Kl hr (h1 0 (by rw [SS];omega));cases this
 have n2:some bb≠some b:=fun e=>by
  injection e with e;subst e
  have:=Kl hr h2;cases this
 have n3:some ib≠some b:=fun e=>by
  injection e with e;subst e
  have:=Kl hr h3;cases this
 exact ⟨sb,so,sc,bb,bo,bc,ib,io,ic,rfl,hcap,⟨h1.grown hG l1 n1,bO l1 hG.size⟩,⟨(nU (a:=⟨bb,bo,none⟩) (hG.block bb l2 n2)).trans h2,bO l2 hG.size⟩,(nU (a:=⟨ib,io,none⟩) (hG.block ib l3 n3)).trans h3,bO l3 hG.size⟩
end
section
open Go Go.RowKit Mem
section
variable {P:Program} {ops:Array Oper} {rest:List Oper} {o:Oper} {a:Act} {Q:Exit→Act→World→Prop} {w:World}
end
end
section
open Go Go.RowKit Mem
structure Nxt (B0:Nat) (w w':World) (K:XK) (V V':XV) (x':Ex):Prop where
 xw:XW B0 w' K V' x'
 upd:kR (Wr K V) w w'
 wr:∀g,Wr K V' g→Wr K V g∨w.heap.size≤g
theorem Nxt.Kw {B0:Nat} {w W:World} {K:XK} {V:XV} {x:Ex} (h:XW B0 W K V x) (hb:Below w.heap.size w W) (i:Nat) (u:OC) (l:List UInt8) (hd:Dat W K V u l):
  Nxt B0 w (W.setCell ⟨K.mb,i,none⟩ u.1) K V {V with us:=V.us.set i u} {x with s:=x.s.set i l}:=
 ⟨h.Kw i u l hd,(kR.of_below _ hb (ah _)).set (.inl (.inr (.inl rfl))) i _,fun _ e=> .inl e⟩
end
section
open Go Go.RowKit Mem
section
variable {α:Type} {f:α→Value} {P:Program} {ops:Array Oper} {rest:List Oper} {o:Oper} {a:Act} {Q:Exit→Act→World→Prop} {w:World} {base:Nat} {e:TypeId} {v:Value} {l:List α}
theorem SF {t:TypeId} {bytes:Nat} (E:lF P t e bytes) (s x:Operand) (hgd:o.guard=none) (ho:o.op= .call {callee:= .builtin .append,args:= #[s,x],argTypes:= #[t,t]})
  (h1:∀x,(f x).oneCell'=true) (hs:a.eval s=v) (hown:Mem.Own f w base e v l) (y:α) (u:Value) (hu:u=f y) (e1:TypeId) (hx:a.eval x= .slice (some ⟨w.heap.size,0,none⟩) 1 1)
  (hn:(l.length+1) * bytes≤140737488355328) (hn2:l.length+1≤140737488355328) (hbase:base≤w.heap.size) (r:List α) (hr:l++[y]=r)
  (h:∀p cap w',Mem.Own f w' base e (.slice p r.length cap) r→(w.alloc (.cells #[u] e1)).grownBy w' v.ownBlock→(∀g,(Value.slice p r.length cap).ownBlock=some g→v.ownBlock=some g∨w.heap.size+1≤g)→wpList P ops Q rest (a.put o.dst (.slice p r.length cap)) w'):
  wpList P ops Q (o::rest) a (w.alloc (.cells #[u] e1)):=by
 subst hu;have hr':Row f (w.alloc (.cells #[f y] e1)) w.heap.size e1 [y]:=Row.new _ _ rfl;obtain ⟨p,cap,w',hrun,h2,h3,h4⟩:=rO (ty:=o.type) E h1 (hown.alloc (.cells #[f y] e1)) w.heap.size 0 1 [y] hr'.at hn hn2 (by simp;omega) r hr;rw [bR] at h4;refine RQ hgd fun K hK=> ?_;have hx':a.eval x= .slice (some ⟨w.heap.size,0,none⟩) [y].length 1:=hx;unfold Oper.wp;simp only [execOp,ho,resolve,invoke,builtin,dR,iB,fT,List.map_toArray,EF,Qk,hs,hx',hrun];refine hK _ _ (h p cap w' h2 h3 fun g hg=> ?_);rcases h4 with h4 | h4
 ·exact .inl (h4▸hg)
 ·rw [hg] at h4;injection h4 with h4;exact .inr (by omega)
end
end
end Go.Proofs.YtncnfncglacheaaGreatDoor
