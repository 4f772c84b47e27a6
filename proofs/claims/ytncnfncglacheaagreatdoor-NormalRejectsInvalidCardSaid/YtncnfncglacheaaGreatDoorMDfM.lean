/- automaton.Valid of a valid automaton. -/
import Derived.Test.YtncnfncglacheaaGreatDoorMClass
import Derived.Test.YtncnfncglacheaaGreatDoorMCells
import Derived.Laws.StructEq
import Derived.ChangeKeysEq
import Derived.Test.YtncnfncglacheaaGreatDoorMHeldD
import Derived.WalkKit
namespace Go.Proofs.YtncnfncglacheaaGreatDoor
open Go Go.RowKit Mem
set_option maxRecDepth 100000
abbrev RdNN:=RdG (Rd nV)
theorem RdNN.below' {w w':World} {v:Value} {l:List (List Nat)} (h:RdNN w v l) (hb:Below w.heap.size w w'):RdNN w' v l:=RdG.below h hb fun _ _ h=>h.below hb
def DfAt (w:World) (v:Value) (D:DF):Prop:=∃vc vn va,v= .agg #[vc,vn,va]∧RdK 4 clL w vc D.cls∧RdNN w vn D.nx∧Rd Value.bool w va D.ac
theorem DfAt.below {w w':World} {v:Value} {D:DF} (h:DfAt w v D) (hb:Below w.heap.size w w'):DfAt w' v D:=by
 obtain ⟨vc,vn,va,rfl,h1,h2,h3⟩:=h
 exact ⟨vc,vn,va,rfl,h1.below hb,RdNN.below' h2 hb,h3.below hb⟩
theorem clPart (w:World) (c:Cl) (i:Nat) (x:Value) (h:(clA c)[i]?=some x):(part 63 (clA c) i).run Tryz.prog w= .ok x w:=by
 simp [part,h]
theorem clItem (w:World) (x y:Cl) (i:Nat) (is:List Nat) (a b:Int) (hx:(clA x)[i]?=some (.int .u64 a)) (hy:(clA y)[i]?=some (.int .u64 b)):
  (Op.eqItems 9999 63 1 (clA x) (clA y) (i::is)).run Tryz.prog w=if (a==b)=true then (Op.eqItems 9999 63 1 (clA x) (clA y) is).run Tryz.prog w else .ok false w:=by
 have e:=run_equalIn_int (P:=Tryz.prog) w 9998 63 .u64 .u64 a b Tryz.underlying63
 rw [Op.eqItems]
 cases hab:a==b<;>simp [Sem.run_bind,clPart w x i _ hx,clPart w y i _ hy,e,hab]
theorem clEqI (w:World) (x y:Cl):(Op.equalIn 10000 65 (.agg (clA x)) (.agg (clA y))).run Tryz.prog w= .ok (X x.a==X y.a && (X x.b==X y.b && (X x.c==X y.c && X x.d==X y.d))) w:=by
 rw [run_equalIn_array w 9999 (clA x) (clA y) Tryz.underlying65 (i:=(Tryz.prog.info? 63).get (by kernel_rfl)) (by kernel_rfl)]
 rw [show List.range 4=[0,1,2,3] from rfl,show Tryz.prog.cellsOf 63=1 by kernel_rfl]
 rw [clItem w x y 0 _ (X x.a) (X y.a) rfl rfl,clItem w x y 1 _ (X x.b) (X y.b) rfl rfl,clItem w x y 2 _ (X x.c) (X y.c) rfl rfl,clItem w x y 3 _ (X x.d) (X y.d) rfl rfl]
 cases (X x.a==X y.a)<;>cases (X x.b==X y.b)<;>cases (X x.c==X y.c)<;>cases (X x.d==X y.d)<;>rfl
theorem clEq_no (w:World) (x y:Cl) (h:x≠y):(binOp .eql 65 (.agg (clA x)) (.agg (clA y))).run Tryz.prog w= .ok (.bool false) w:=by
 rw [run_eql_struct,clEqI]
 have:(X x.a==X y.a && (X x.b==X y.b && (X x.c==X y.c && X x.d==X y.d)))=false:=by
  rw [Bool.eq_false_iff]
  intro he
  simp only [Bool.and_eq_true,beq_iff_eq] at he
  obtain ⟨h1,h2,h3,h4⟩:=he
  apply h
  obtain ⟨a,b,c,d⟩:=x
  obtain ⟨a',b',c',d'⟩:=y
  cases X_inj h1;cases X_inj h2;cases X_inj h3;cases X_inj h4;rfl
 rw [this];rfl
theorem clNe_yes (w:World) (x y:Cl) (h:x≠y):(binOp .neq 65 (.agg (clA x)) (.agg (clA y))).run Tryz.prog w= .ok (.bool true) w:=by
 have h1:=clEq_no w x y h
 rw [run_eql_struct,clEqI] at h1
 rw [run_neq_struct,clEqI]
 injection h1 with h2 _
 injection h2 with h2
 simp [Result.andThen,h2]
theorem clI_no (w:World) (x:Cl) (h:x≠zeroC):(Op.equalIn 10000 65 (.agg (clA x)) (.agg #[.int .u64 0, .int .u64 0, .int .u64 0, .int .u64 0])).run Tryz.prog w= .ok false w:=by
 have h1:=clEq_no w x zeroC h
 rw [run_eql_struct,clEqI] at h1
 injection h1 with h2 _
 injection h2 with h2
 have h3:=clEqI w x zeroC
 rw [h2] at h3
 exact h3
theorem clI_yes (w:World):(Op.equalIn 10000 65 (.agg (clA zeroC)) (.agg #[.int .u64 0, .int .u64 0, .int .u64 0, .int .u64 0])).run Tryz.prog w= .ok true w:=by
 have h3:=clEqI w zeroC zeroC
 simp only [beq_self_eq_true,Bool.and_self] at h3
 exact h3
theorem guardCl:Tryz.prog.eqGuardType Tryz.prog.depth 65=false:=by kernel_rfl
def seenK (l:List Cl) (k:Nat):Cl:=(l.take k).foldl Cl.union zeroC
structure DF.V (D:DF):Prop extends DF.Ok D where
 n64:D.nx.length≤64
 ne:∀c∈D.cls,c≠zeroC
 dj:∀k (h:k<D.cls.length),(seenK D.cls k).inter D.cls[k]=zeroC
 un:(seenK D.cls D.cls.length).non=zeroC
end Go.Proofs.YtncnfncglacheaaGreatDoor
namespace Go.Proofs.YtncnfncglacheaaGreatDoor
open Go Go.RowKit Mem
set_option maxRecDepth 100000
theorem zipnot_mem (c:Cl) (i:Nat) (hi:i<256):c.non.mem i= !c.mem i:=by
 have h:∀x:UInt64,∀r,r<64→(~~~x).toNat.testBit r= !x.toNat.testBit r:=fun x r hr=>by
  rw [UInt64.toNat_not]
  rw [show UInt64.size - 1 - x.toNat=2 ^ 64 - (x.toNat+1) by simp [UInt64.size]]
  rw [Nat.testBit_two_pow_sub_succ (by have:=u64_lt x;simpa using this)]
  simp [hr]
 unfold Cl.mem
 have hr:=Nat.mod_lt i (show 64>0 by omega)
 have hq:i / 64<4:=by omega
 generalize i % 64=r at *
 generalize i / 64=q at *
 match q,hq with
 | 0,_=>exact h c.a r hr
 | 1,_=>exact h c.b r hr
 | 2,_=>exact h c.c r hr
 | 3,_=>exact h c.d r hr
structure MS.Part (T:TB) (k:Nat) (st:MS):Prop where
 pos:∀b,b<k→0≤st.of.getD (T.cell.getD b 0) 0
 mem:∀i,i<st.cls.length→∀b,b<256→(st.cls.getD i zeroC).mem b=(decide (b<k) && decide (st.of.getD (T.cell.getD b 0) 0=(i:Int)))
 hit:∀i,i<st.cls.length→∃b,b<k∧st.of.getD (T.cell.getD b 0) 0=(i:Int)
theorem getD_append_lt {α:Type} (l m:List α) (i:Nat) (d:α) (h:i<l.length):(l++m).getD i d=l.getD i d:=by
 rw [List.getD_eq_getElem?_getD,List.getElem?_append_left h,List.getD_eq_getElem?_getD]
theorem getD_snoc {α:Type} (l:List α) (x d:α):(l++[x]).getD l.length d=x:=by
 rw [List.getD_eq_getElem?_getD,List.getElem?_append_right (Nat.le_refl _),Nat.sub_self];rfl
theorem mergeK_part {T:TB} (h:T.Ok) (block reps:List Nat):∀k,k≤256→(mergeK T block reps k).Part T k
 | 0,_=>⟨fun b hb=>by omega,fun i hi=>by simp [mergeK,ms0] at hi,fun i hi=>by simp [mergeK,ms0] at hi⟩
 | k+1,hk=>by
  have hk':k<256:=by omega
  have ho:=mergeK_ok h block reps k (by omega)
  have hp:=mergeK_part h block reps k (by omega)
  have hck:=cell_lt h k hk'
  have ⟨fo,f0⟩:=mfind_ok ho T.nx block reps hck
  show (mjoin (mfind T.nx block reps (mergeK T block reps k) (T.cell.getD k 0)) (T.cell.getD k 0) k).Part T (k+1)
  generalize mergeK T block reps k=st at *
  generalize hc:T.cell.getD k 0=c at *
  have hcl:c<st.of.length:=by rw [ho.ol];exact hck
  have hm:(∀b,b<k→(mfind T.nx block reps st c).of.getD (T.cell.getD b 0) 0=st.of.getD (T.cell.getD b 0) 0)∧st.cls.length≤(mfind T.nx block reps st c).cls.length∧(∀i,i<st.cls.length→(mfind T.nx block reps st c).cls.getD i zeroC=st.cls.getD i zeroC)∧
    (∀i,st.cls.length≤i→i<(mfind T.nx block reps st c).cls.length→(mfind T.nx block reps st c).cls.getD i zeroC=zeroC∧(mfind T.nx block reps st c).of.getD c 0=(i:Int)):=by
   have hne:st.of.getD c 0<0→∀b,b<k→∀z:Int,(st.of.set c z).getD (T.cell.getD b 0) 0=st.of.getD (T.cell.getD b 0) 0:=fun hn b hb z=>by
    rw [getD_set _ _ _ _ _ hcl,if_neg]
    intro e
    have:=hp.pos b hb
    rw [← e] at this
    omega
   unfold mfind
   split
   ·rename_i hn
    split
    ·exact ⟨fun b hb=>hne hn b hb _,Nat.le_refl _,fun _ _=>rfl,fun i h1 h2=>by simp only at h2;omega⟩
    ·refine ⟨fun b hb=>hne hn b hb _,by simp,fun i hi=>getD_append_lt _ _ _ _ hi,fun i h1 h2=> ?_⟩
     simp only [List.length_append,List.length_singleton] at h2
     have e:i=st.cls.length:=by omega
     subst e
     refine ⟨getD_snoc _ _ _,?_⟩
     show (st.of.set c _).getD c 0=_
     rw [getD_set _ _ _ _ _ hcl,if_pos rfl,ho.cc]
   ·exact ⟨fun _ _=>rfl,Nat.le_refl _,fun _ _=>rfl,fun i h1 h2=>by omega⟩
  obtain ⟨m1,m2,m3,m4⟩:=hm
  generalize mfind T.nx block reps st c=s1 at *
  obtain ⟨j,hj⟩:∃j:Nat,s1.of.getD c 0=(j:Int):=⟨_,(Int.toNat_of_nonneg f0).symm⟩
  have hjl:j<s1.cls.length:=by
   have:=fo.ob _ (getD_mem s1.of c 0 (by rw [fo.ol];exact hck))
   rw [hj] at this
   rw [fo.cc];omega
  have hof:(mjoin s1 c k).of=s1.of:=rfl
  have hcls:(mjoin s1 c k).cls=s1.cls.set j ((s1.cls.getD j zeroC).union (zeroC.add k)):=by
   unfold mjoin;simp only [hj,Int.toNat_natCast]
  have hold:∀i,i<s1.cls.length→∀b,b<256→(s1.cls.getD i zeroC).mem b=(decide (b<k) && decide (s1.of.getD (T.cell.getD b 0) 0=(i:Int))):=fun i hi b hb=>by
   by_cases hil:i<st.cls.length
   ·rw [m3 i hil,hp.mem i hil b hb]
    by_cases hbk:b<k
    ·rw [m1 b hbk]
    ·simp [hbk]
   ·obtain ⟨e1,e2⟩:=m4 i (by omega) hi
    rw [e1,zero_mem]
    by_cases hbk:b<k
    ·rw [m1 b hbk]
     have:=ho.ob _ (getD_mem st.of (T.cell.getD b 0) 0 (by rw [ho.ol];exact cell_lt h b hb))
     have hne:st.of.getD (T.cell.getD b 0) 0≠(i:Int):=by
      rw [← ho.cc] at this;omega
     rw [decide_eq_false hne,Bool.and_false]
    ·simp [hbk]
  refine ⟨fun b hb=> ?_,fun i hi b hb=> ?_,fun i hi=> ?_⟩
  ·rw [hof]
   by_cases e:b=k
   ·subst e;rw [hc];exact f0
   ·rw [m1 b (by omega)];exact hp.pos b (by omega)
  ·rw [hcls,List.length_set] at hi
   rw [hcls,hof,getD_set _ _ _ _ _ hjl]
   by_cases e:j=i
   ·subst e
    rw [if_pos rfl,union_mem,Cl.add_mem _ _ _ hk' hb,zero_mem,hold j hjl b hb]
    by_cases eb:b=k
    ·subst eb
     rw [hc,hj];simp
    ·have:decide (b<k+1)=decide (b<k):=by
      rw [decide_eq_decide];omega
     rw [this];simp [eb]
   ·rw [if_neg e,hold i hi b hb]
    by_cases eb:b=k
    ·subst eb
     have hne:¬(j:Int)=(i:Int):=by omega
     rw [hc,hj];simp [hne]
    ·have:decide (b<k+1)=decide (b<k):=by
      rw [decide_eq_decide];omega
     rw [this]
  ·rw [hcls,List.length_set] at hi
   rw [hof]
   by_cases hil:i<st.cls.length
   ·obtain ⟨b,h1,h2⟩:=hp.hit i hil
    exact ⟨b,by omega,by rw [m1 b h1];exact h2⟩
   ·obtain ⟨_,e2⟩:=m4 i (by omega) hi
    exact ⟨k,by omega,by rw [hc];exact e2⟩
theorem seenK_mem (l:List Cl) (k i:Nat):(seenK l k).mem i=(l.take k).any fun c=>c.mem i:=by
 unfold seenK;rw [foldl_union_mem,zero_mem,Bool.false_or]
theorem TB.Ok.canonV {T:TB} (h:T.Ok) (h64:T.canon.nx.length≤64):T.canon.V:=by
 have hp:=mergeK_part h (T.refine T.reach).1 (T.refine T.reach).2 256 (Nat.le_refl _)
 have ho:=mergeK_ok h (T.refine T.reach).1 (T.refine T.reach).2 256 (Nat.le_refl _)
 have hD:T.canon.cls=(mergeK T (T.refine T.reach).1 (T.refine T.reach).2 256).cls:=by simp only [TB.canon,canM,TB.merge]
 generalize mergeK T (T.refine T.reach).1 (T.refine T.reach).2 256=st at *
 refine {toOk:=h.canon.1,n64:=h64,ne:= ?_,dj:= ?_,un:= ?_}
 ·rw [hD]
  intro c hc e
  obtain ⟨i,hi,rfl⟩:=List.mem_iff_getElem.1 hc
  obtain ⟨b,hb,h2⟩:=hp.hit i hi
  have:=hp.mem i hi b hb
  rw [List.getD_eq_getElem?_getD,List.getElem?_eq_getElem hi,Option.getD_some,e,zero_mem,h2] at this
  simp [hb] at this
 ·rw [hD]
  intro k hk
  refine Cl.ext_mem _ _ fun b hb=> ?_
  rw [inter_mem,seenK_mem,zero_mem]
  rw [Bool.and_eq_false_iff]
  by_cases hm:(st.cls[k]).mem b=true
  ·refine .inl ?_
   rw [Bool.eq_false_iff]
   intro hany
   obtain ⟨c,hc,hcm⟩:=List.any_eq_true.1 hany
   obtain ⟨i,hi,e⟩:=List.mem_take_iff_getElem.1 hc
   subst e
   have h1:=hp.mem i (by omega) b hb
   have h2:=hp.mem k hk b hb
   rw [List.getD_eq_getElem?_getD,List.getElem?_eq_getElem (by omega),Option.getD_some,hcm] at h1
   rw [List.getD_eq_getElem?_getD,List.getElem?_eq_getElem hk,Option.getD_some,hm] at h2
   have h1':=h1.symm
   have h2':=h2.symm
   rw [Bool.and_eq_true,decide_eq_true_eq,decide_eq_true_eq] at h1' h2'
   have:=h1'.2.symm.trans h2'.2
   omega
  ·exact .inr (by simpa using hm)
 ·rw [hD]
  refine Cl.ext_mem _ _ fun b hb=> ?_
  rw [zipnot_mem _ _ hb,seenK_mem,zero_mem,List.take_length]
  rw [Bool.not_eq_false']
  have h1:=hp.pos b hb
  have h2:=ho.ob _ (getD_mem _ (T.cell.getD b 0) 0 (by rw [ho.ol];exact cell_lt h b hb))
  obtain ⟨i,hi⟩:∃i:Nat,st.of.getD (T.cell.getD b 0) 0=(i:Int):=⟨_,(Int.toNat_of_nonneg h1).symm⟩
  rw [hi,← ho.cc] at h2
  have hil:i<st.cls.length:=by omega
  have h3:=hp.mem i hil b hb
  rw [hi] at h3
  refine List.any_eq_true.2 ⟨_,getD_mem _ i zeroC hil,?_⟩
  rw [h3];simp [hb]
structure JS where
 ks:List (Nat×Nat)
 bs:List Nat
 cell:List Nat
def jstep (c1 c2:List Nat) (st:JS) (x:Nat):JS:=
 if (c1.getD x 0,c2.getD x 0)∈st.ks then {st with cell:=st.cell.set x (st.ks.idxOf (c1.getD x 0,c2.getD x 0))} else ⟨st.ks++[(c1.getD x 0,c2.getD x 0)],st.bs++[x],st.cell.set x st.ks.length⟩
def jointK (c1 c2:List Nat):Nat→JS
 | 0=>⟨[],[],List.replicate 256 0⟩
 | k+1=>jstep c1 c2 (jointK c1 c2 k) k
structure JS.Ok (k:Nat) (st:JS):Prop where
 bl:st.bs.length=st.ks.length
 le:st.bs.length≤k
 cl:st.cell.length=256
 bb:∀x∈st.bs,x<k
 cb:∀x∈st.cell,x<max 1 st.ks.length
theorem jointK_ok (c1 c2:List Nat):∀k,k≤256→(jointK c1 c2 k).Ok k
 | 0,_=>⟨rfl,Nat.le_refl _,by simp [jointK],by simp [jointK],fun x hx=>by rw [(List.mem_replicate.1 hx).2];show 0<max 1 0;omega⟩
 | k+1,hk=>by
  have h:=jointK_ok c1 c2 k (by omega)
  show (jstep c1 c2 (jointK c1 c2 k) k).Ok (k+1)
  generalize jointK c1 c2 k=st at *
  unfold jstep
  split
  ·rename_i hm
   have hid:=List.idxOf_lt_length_of_mem hm
   refine ⟨h.bl,by have:=h.le;show st.bs.length≤_;omega,by rw [List.length_set];exact h.cl,fun x hx=>by have:=h.bb x hx;omega,fun x hx=> ?_⟩
   rcases List.mem_or_eq_of_mem_set hx with h' | rfl
   ·exact h.cb x h'
   ·show _<max 1 st.ks.length;omega
  ·refine ⟨by simp [h.bl],by simp only [List.length_append,List.length_singleton];have:=h.le;omega,by rw [List.length_set];exact h.cl,fun x hx=> ?_,fun x hx=> ?_⟩
   ·rcases List.mem_append.1 hx with h' | h'
    ·have:=h.bb x h';omega
    ·rw [List.mem_singleton.1 h'];omega
   ·simp only [List.length_append,List.length_singleton]
    rcases List.mem_or_eq_of_mem_set hx with h' | rfl
    ·have:=h.cb x h';omega
    ·omega
theorem jointK_ne (c1 c2:List Nat):∀k,1≤(jointK c1 c2 (k+1)).bs.length
 | 0=>by simp [jointK,jstep]
 | k+1=>by
  have:=jointK_ne c1 c2 k
  show 1≤(jstep c1 c2 (jointK c1 c2 (k+1)) (k+1)).bs.length
  unfold jstep
  split
  ·exact this
  ·simp
abbrev Sx:=Nat×Nat×UInt64
def sx0:Sx:=(0,0,0)
structure XS where
 ks:List Sx
 row:List Nat
def xput (m:Nat) (st:XS) (t:Sx):Option XS:=
 if t∈st.ks then some {st with row:=st.row++[st.ks.idxOf t]} else if st.ks.length=m then none else some ⟨st.ks++[t],st.row++[st.ks.length]⟩
def xrow (m:Nat) (nxt:Sx→Nat→Sx) (s:Sx) (bs:List Nat) (st:XS):Option XS:=bs.foldl (fun o c=>o.bind fun st=>xput m st (nxt s c)) (some st)
structure XA where
 ks:List Sx
 nx:List (List Nat)
 ac:List Bool
def xF (m:Nat) (nxt:Sx→Nat→Sx) (acc:Sx→Bool) (bs:List Nat):Nat→Nat→XA→Option XA
 | 0,_,a=>some a
 | f+1,i,a=>if i<a.ks.length then (xrow m nxt (a.ks.getD i sx0) bs ⟨a.ks,[]⟩).bind fun st=>xF m nxt acc bs f (i+1) ⟨st.ks,a.nx++[st.row],a.ac++[acc (a.ks.getD i sx0)]⟩ else some a
def expl (cell bs:List Nat) (start:Sx) (nxt:Sx→Nat→Sx) (acc:Sx→Bool) (m K:Nat):Option TB:=(xF m nxt acc bs K 0 ⟨[start],[],[]⟩).map fun a=>⟨cell,bs.length,a.nx,a.ac⟩
theorem xrow_nil (m:Nat) (nxt:Sx→Nat→Sx) (s:Sx) (st:XS):xrow m nxt s [] st=some st:=rfl
theorem xrow_none (m:Nat) (nxt:Sx→Nat→Sx) (s:Sx):∀bs:List Nat,bs.foldl (fun o c=>o.bind fun st=>xput m st (nxt s c)) (none:Option XS)=none
 | []=>rfl
 | _::bs=>xrow_none m nxt s bs
theorem xrow_take (m:Nat) (nxt:Sx→Nat→Sx) (s:Sx) (bs:List Nat) (st:XS) (j:Nat) (hj:j<bs.length):xrow m nxt s (bs.take (j+1)) st=(xrow m nxt s (bs.take j) st).bind fun x=>xput m x (nxt s bs[j]):=by
 unfold xrow;rw [foldl_take_succ _ _ _ _ hj]
theorem xrow_fail (m:Nat) (nxt:Sx→Nat→Sx) (s:Sx) (bs:List Nat) (st:XS) (j:Nat) (hn:xrow m nxt s (bs.take j) st=none):xrow m nxt s bs st=none:=by
 conv=>lhs;rw [← List.take_append_drop j bs]
 unfold xrow at hn ⊢
 rw [List.foldl_append,hn,xrow_none]
structure XOk (ok:Sx→Prop) (m:Nat) (ks:List Sx):Prop where
 nd:ks.Nodup
 ok:∀s∈ks,ok s
 le:ks.length≤m
 ne:1≤ks.length
structure XS.Ok (ok:Sx→Prop) (m:Nat) (st:XS):Prop extends XOk ok m st.ks where
 rb:∀x∈st.row,x<st.ks.length
theorem xput_ok {ok:Sx→Prop} {m:Nat} {st st':XS} (h:st.Ok ok m) {t:Sx} (ht:ok t) (hp:xput m st t=some st'):st'.Ok ok m∧st'.row.length=st.row.length+1∧st.ks.length≤st'.ks.length:=by
 unfold xput at hp
 split at hp
 ·rename_i hm
  have hid:=List.idxOf_lt_length_of_mem hm
  injection hp with hp
  subst hp
  refine ⟨{toXOk:=h.toXOk,rb:=fun x hx=> ?_},by simp,Nat.le_refl _⟩
  rcases List.mem_append.1 hx with h' | h'
  ·exact h.rb x h'
  ·rw [List.mem_singleton.1 h'];exact hid
 ·rename_i hm
  split at hp
  ·cases hp
  ·rename_i hl
   injection hp with hp
   subst hp
   have hle:=h.le
   refine ⟨{nd:=List.nodup_append.2 ⟨h.nd,by simp,fun a ha b hb e=>hm (by rw [← List.mem_singleton.1 hb,← e];exact ha)⟩,ok:=fun s hs=> ?_,le:=by simp;omega,ne:=by simp,rb:=fun x hx=> ?_},by simp,by simp⟩
   ·rcases List.mem_append.1 hs with h' | h'
    ·exact h.ok s h'
    ·rw [List.mem_singleton.1 h'];exact ht
   ·simp only [List.length_append,List.length_singleton]
    rcases List.mem_append.1 hx with h' | h'
    ·have:=h.rb x h';omega
    ·rw [List.mem_singleton.1 h'];omega
theorem xrow_ok {ok:Sx→Prop} {m:Nat} {nxt:Sx→Nat→Sx} {s:Sx} {bs:List Nat} (hn:∀c∈bs,ok (nxt s c)) {st:XS} (h:st.Ok ok m) (hr:st.row=[]):
  ∀(j:Nat) (st':XS),j≤bs.length→xrow m nxt s (bs.take j) st=some st'→st'.Ok ok m∧st'.row.length=j∧st.ks.length≤st'.ks.length
 | 0,st',_,e=>by
  rw [List.take_zero,xrow_nil] at e
  injection e with e
  subst e
  exact ⟨h,by rw [hr];rfl,Nat.le_refl _⟩
 | j+1,st',hj,e=>by
  rw [xrow_take _ _ _ _ _ _ hj] at e
  obtain ⟨st1,e1,e2⟩:=Option.bind_eq_some_iff.1 e
  obtain ⟨h1,h2,h3⟩:=xrow_ok hn h hr j st1 (by omega) e1
  obtain ⟨g1,g2,g3⟩:=xput_ok h1 (hn _ (List.getElem_mem hj)) e2
  exact ⟨g1,by rw [g2,h2],by omega⟩
structure XA.Ok (ok:Sx→Prop) (m n i:Nat) (a:XA):Prop extends XOk ok m a.ks where
 il:i≤a.ks.length
 nl:a.nx.length=i
 al:a.ac.length=i
 rl:∀r∈a.nx,r.length=n
 rb:∀r∈a.nx,∀t∈r,t<a.ks.length
theorem xa_step {ok:Sx→Prop} {m i:Nat} {nxt:Sx→Nat→Sx} {bs:List Nat} {a:XA} (h:a.Ok ok m bs.length i) (hn:∀s,ok s→∀c∈bs,ok (nxt s c)) (hi:i<a.ks.length) {st:XS} (e:xrow m nxt (a.ks.getD i sx0) bs ⟨a.ks,[]⟩=some st) (z:Bool):
  XA.Ok ok m bs.length (i+1) ⟨st.ks,a.nx++[st.row],a.ac++[z]⟩:=by
 have hs:=h.ok _ (getD_mem a.ks i sx0 hi)
 obtain ⟨h1,h2,h3⟩:=xrow_ok (st:=⟨a.ks,[]⟩) (hn _ hs) {toXOk:=h.toXOk,rb:=by simp} rfl bs.length st (Nat.le_refl _) (by rw [List.take_length];exact e)
 refine {toXOk:=h1.toXOk,il:=by simp only at h3;show i+1≤st.ks.length;omega,nl:=by simp [h.nl],al:=by simp [h.al],rl:=fun r hr=> ?_,rb:=fun r hr t ht=> ?_}
 ·rcases List.mem_append.1 hr with h' | h'
  ·exact h.rl r h'
  ·rw [List.mem_singleton.1 h'];exact h2
 ·show t<st.ks.length
  rcases List.mem_append.1 hr with h' | h'
  ·have:=h.rb r h' t ht;simp only at h3;omega
  ·rw [List.mem_singleton.1 h'] at ht;exact h1.rb t ht
theorem xa0_ok {ok:Sx→Prop} {m n:Nat} {start:Sx} (hs:ok start) (hm:1≤m):XA.Ok ok m n 0 ⟨[start],[],[]⟩:=
 {nd:=by simp,ok:=by simp only [List.mem_singleton];rintro s rfl;exact hs,le:=hm,ne:=by simp,il:=Nat.zero_le _,nl:=rfl,al:=rfl,rl:=by simp,rb:=by simp}
theorem xF_ok {ok:Sx→Prop} {m K:Nat} {nxt:Sx→Nat→Sx} {acc:Sx→Bool} {bs:List Nat} (hn:∀s,ok s→∀c∈bs,ok (nxt s c)) (hK:∀l:List Sx,XOk ok m l→l.length≤K):
  ∀(f i:Nat) (a b:XA),a.Ok ok m bs.length i→K≤f+i→xF m nxt acc bs f i a=some b→∃k,b.Ok ok m bs.length k∧k=b.ks.length
 | 0,i,a,b,h,hf,e=>by
  injection e with e
  subst e
  exact ⟨i,h,by have:=hK _ h.toXOk;have:=h.il;omega⟩
 | f+1,i,a,b,h,hf,e=>by
  unfold xF at e
  split at e
  ·rename_i hi
   obtain ⟨st,e1,e2⟩:=Option.bind_eq_some_iff.1 e
   exact xF_ok hn hK f _ _ b (xa_step h hn hi e1 _) (by omega) e2
  ·rename_i hi
   injection e with e
   subst e
   exact ⟨i,h,by have:=h.il;omega⟩
theorem xF_step (m:Nat) (nxt:Sx→Nat→Sx) (acc:Sx→Bool) (bs:List Nat) (n i:Nat) (a:XA) (h:i<a.ks.length) (hn:a.ks.length≤n):
  xF m nxt acc bs (n - i) i a=(xrow m nxt (a.ks.getD i sx0) bs ⟨a.ks,[]⟩).bind fun st=>xF m nxt acc bs (n - (i+1)) (i+1) ⟨st.ks,a.nx++[st.row],a.ac++[acc (a.ks.getD i sx0)]⟩:=by
 rw [show n - i=(n - (i+1))+1 by omega,xF,if_pos h]
theorem xF_end (m:Nat) (nxt:Sx→Nat→Sx) (acc:Sx→Bool) (bs:List Nat) (f i:Nat) (a:XA) (h:a.ks.length≤i):xF m nxt acc bs f i a=some a:=by
 cases f with
 | zero=>rfl
 | succ f=>rw [xF,if_neg (by omega)]
theorem expl_ok {ok:Sx→Prop} {m K:Nat} {nxt:Sx→Nat→Sx} {acc:Sx→Bool} {cell bs:List Nat} {start:Sx} (hs:ok start) (hm:1≤m) (hn:∀s,ok s→∀c∈bs,ok (nxt s c)) (hK:∀l:List Sx,XOk ok m l→l.length≤K) (hK6:K≤65535)
  (hc:cell.length=256) (hb:bs.length≤256) (hcb:∀x∈cell,x<bs.length) {T:TB} (e:expl cell bs start nxt acc m K=some T):T.Ok:=by
 unfold expl at e
 obtain ⟨a,e1,rfl⟩:=Option.map_eq_some_iff.1 e
 obtain ⟨k,h,rfl⟩:=xF_ok hn hK K 0 _ a (xa0_ok hs hm) (by omega) e1
 have hle:=hK _ h.toXOk
 have hne:=h.ne
 have hnl:=h.nl
 exact ⟨hc,hb,hcb,by show 1≤a.nx.length;omega,by show a.nx.length≤_;omega,by show a.ac.length=a.nx.length;rw [h.nl,h.al],h.rl,fun r hr t ht=>by show t<a.nx.length;rw [hnl];exact h.rb r hr t ht⟩
def TB.to (T:TB) (s b:Nat):Nat:=(T.nx.getD s []).getD (T.cell.getD b 0) 0
def bitS (s:UInt64) (q:Nat):Bool:=(s>>>UInt64.ofNat q) &&& 1==1
def tgtK (T:TB) (s:UInt64) (b:Nat):Nat→UInt64
 | 0=>0
 | q+1=>if bitS s q=true then tgtK T s b q ||| ((1:UInt64)<<<UInt64.ofNat (T.to q b)) else tgtK T s b q
def TB.targets (T:TB) (s:UInt64) (b:Nat):UInt64:=tgtK T s b T.nx.length
def TB.some (T:TB) (s:UInt64):Bool:=(List.range T.nx.length).any fun q=>T.ac.getD q false && bitS s q
def lim (T:TB):Except Nat DF:=if T.canon.nx.length≤64 then .ok T.canon else .error 2
def limO:Option TB→Except Nat DF
 | none=> .error 2
 | some T=>lim T
def jnt (x y:TB):JS:=jointK x.cell y.cell 256
def catX (A:DF):TB:=tabOf (tabOf A).canon
def catE (x:TB) (s:Sx):Sx:=if x.ac.getD s.1 false=true then (s.1,s.2.1,s.2.2 ||| 1) else s
def catN (x y:TB) (s:Sx) (c:Nat):Sx:=catE x (x.to s.1 c,0,y.targets s.2.2 c)
def catT (x y:TB):Option TB:=expl (jnt x y).cell (jnt x y).bs (catE x sx0) (catN x y) (fun s=>y.some s.2.2) 4096 4096
def DF.cat (A B:DF):Except Nat DF:=limO (catT (catX A) (catX B))
def starN (x:TB) (s:Sx) (c:Nat):Sx:=if x.some (x.targets s.2.2 c)=true then (0,0,x.targets s.2.2 c ||| 1) else (0,0,x.targets s.2.2 c)
def starT (x:TB):Option TB:=expl (jnt x x).cell (jnt x x).bs (1,0,1) (starN x) (fun s=>s.1==1 || x.some s.2.2) 4096 4096
def DF.star (A:DF):Except Nat DF:=limO (starT (catX A))
def wordT:TB:=⟨List.range 256,256,[List.replicate 256 1,List.replicate 256 1],[true,false]⟩
end Go.Proofs.YtncnfncglacheaaGreatDoor
namespace Go.Proofs.YtncnfncglacheaaGreatDoor
open Go Go.RowKit Mem
set_option maxRecDepth 100000
theorem seenK_succ (l:List Cl) (k:Nat) (h:k<l.length):seenK l (k+1)=(seenK l k).union l[k]:=foldl_take_succ _ _ _ _ h
set_option maxHeartbeats 8000000 in
theorem dValid (w:World) (v:Value) (D:DF) (hv:DfAt w v D) (hV:D.V):Calls Tryz.prog 69 #[v] w fun e w'=>e= .returned (.bool true)∧Below w.heap.size w w':=by
 obtain ⟨vc,vn,va,rfl,h1,h2,h3⟩:=hv
 obtain ⟨pc,kc,rfl⟩:=h1.slice
 obtain ⟨pn,kn,rfl⟩:=h2.slice
 obtain ⟨pa,ka,rfl⟩:=h3.slice
 have HC:=Lib.hid h1
 have HN:=Lib.hid h2
 have HA:=Lib.hid h3
 have HV:=Lib.hid hV
 have hac:=hV.ac
 obtain ⟨n,Hn⟩:∃n,Hid (D.nx.length=n):=⟨_,Lib.hid rfl⟩
 obtain ⟨m,Hm⟩:∃n,Hid (D.cls.length=n):=⟨_,Lib.hid rfl⟩
 rw [Hn.out] at hac HN ⊢
 rw [hac] at HA ⊢
 rw [Hm.out] at HC ⊢
 have g1:1≤n:=by rw [← Hn.out];exact hV.n1
 have g2:n≤64:=by rw [← Hn.out];exact hV.n64
 have g3:1≤m:=by rw [← Hm.out];exact hV.c1
 have g4:m≤256:=by rw [← Hm.out];exact hV.c256
 clear h1 h2 h3 hV hac
 have hD0:Row oV (w.alloc (.cells #[.slice pc m kc, .slice pn n kn, .slice pa n ka] 79)) w.heap.size 79 [⟨.slice pc m kc,rfl⟩,⟨.slice pn n kn,rfl⟩,⟨.slice pa n ka,rfl⟩]:=Row.new _ _ rfl
 have hB0:Below w.heap.size w (w.alloc (.cells #[.slice pc m kc, .slice pn n kn, .slice pa n ka] 79)):=(Below.refl _ _).alloc (Nat.le_refl _) _
 have hS0:(w.alloc (.cells #[.slice pc m kc, .slice pn n kn, .slice pa n ka] 79)).heap.size=w.heap.size+1:=World.size_alloc _ _
 have gq:=guardCl
 go_enter Tryz.func69,Tryz.ntmps69
 go_upto_region 1 with (fail)
 generalize (w.alloc (.cells #[.slice pc m kc, .slice pn n kn, .slice pa n ka] 79))=W at hD0 hB0 hS0 ⊢
 have c0:W.cell? ⟨w.heap.size,0,none⟩=some (.slice pc m kc):=by rw [hD0.cell?];rfl
 have c1:W.cell? ⟨w.heap.size,1,none⟩=some (.slice pn n kn):=by rw [hD0.cell?];rfl
 have c2:W.cell? ⟨w.heap.size,2,none⟩=some (.slice pa n ka):=by rw [hD0.cell?];rfl
 have b1:((n:Int) !=(n:Int))=false:=by simp
 have d1:decide ((n:Int)<1)=false:=by rw [decide_eq_false_iff_not];omega
 have d2:decide ((64:Int)<(n:Int))=false:=by rw [decide_eq_false_iff_not];omega
 have d3:decide ((m:Int)<1)=false:=by rw [decide_eq_false_iff_not];omega
 have d4:decide ((256:Int)<(m:Int))=false:=by rw [decide_eq_false_iff_not];omega
 have hS1:Row oV (W.alloc (.cells zCl 65)) W.heap.size 65 (clL (seenK D.cls 0)):=Row.new _ _ rfl
 have hD1:=hD0.alloc (.cells zCl 65)
 have hB1:=below_al hB0 (Nat.le_refl _) (.cells zCl 65)
 have hs1:w.heap.size+2≤(W.alloc (.cells zCl 65)).heap.size:=by rw [World.size_alloc];omega
 rw [hS0] at hS1
 go_upto_region 5 with (fail)
 clear c0 c1 c2
 generalize (W.alloc (.cells zCl 65))=W1 at hS1 hD1 hB1 hs1 ⊢
 clear hD0 hB0 hS0
 clear W
 have HDR:Hid (Row oV W1 w.heap.size 79 [⟨.slice pc m kc,rfl⟩,⟨.slice pn n kn,rfl⟩,⟨.slice pa n ka,rfl⟩]):=Lib.hid hD1
 have c0:W1.cell? ⟨w.heap.size,0,none⟩=some (.slice pc m kc):=by rw [hD1.cell?];rfl
 obtain ⟨sb,hsb⟩:∃sb,w.heap.size+1=sb:=⟨_,rfl⟩
 have hsb':w.heap.size<sb:=by omega
 rw [hsb] at hS1 ⊢
 replace hs1:sb+1≤W1.heap.size:=by omega
 clear hsb hD1
 obtain ⟨db,hdb⟩:∃db,w.heap.size=db:=⟨_,rfl⟩
 rw [hdb] at hB1 hsb' c0 HDR ⊢
 go_wp2_with fail
 go_loopw [42] (fun i wr=>∃k:Nat,k≤m∧i= .int .i64 k∧Row oV wr sb 65 (clL (seenK D.cls k))∧Below sb W1 wr) (fun i _=>m - (intOf i).toNat)
 case atStart=>exact ⟨0,by omega,rfl,hS1,Below.refl _ _⟩
 case round=>
  clear hS1 c0
  obtain ⟨k,hk,rfl,hS,hX⟩:=hrel
  by_cases hlt:k<m
  ·have hq:(k:Int)<(m:Int):=by omega
   have hkl:k<D.cls.length:=by rw [Hm.out];exact hlt
   have hXs:=hX.size
   have hW1:Below w.heap.size w wr:=by rw [hdb];exact hB1.trans (hX.mono (by omega))
   obtain ⟨cb,co,rfl,hAt,_,hcl⟩:=HC.out.elem k hkl
   have hA:=hAt.below hW1 hcl
   have hne:=HV.out.ne _ (List.getElem_mem hkl)
   have hdj:=HV.out.dj k hkl
   have HS:=Lib.hid (seenK_succ D.cls k hkl)
   generalize D.cls[k]=c at *
   generalize seenK D.cls k=s0 at *
   have he:=fun w:World=>clI_no w c hne
   have hn:=clI_yes
   have hBoxB:=below_al hX (by omega) (.cells zCl 65)
   have hSB:=hS.alloc (.cells zCl 65)
   have hsl:=hS.lt
   have hz:Row oV (wr.alloc (.cells zCl 65)) wr.heap.size 65 [ow 0,ow 0,ow 0,ow 0]:=Row.new _ _ rfl
   have hc4:(clA c).size=4:=rfl
   go_upto_region 8 with (first
    | ((with_reducible refine zL hA aggCl rfl (C:=clA c) ?_))
    | ((with_reducible refine zS (l':=clL c) hz aggCl ?_);(intro W6 hs6 hG6 hz6)))
   have hX6:Below sb W1 W6:=hBoxB.grown hG6 (by have:=hBoxB.size;omega) (fun k e=>by cases e;omega)
   have hS6:=hSB.grown hG6 (by simp;omega)
   clear hz hBoxB hSB hsl hA hAt hS hG6 hz6 hX hW1
   generalize wr.heap.size=bx at hs6 hXs ⊢
   have y0:W6.cell? ⟨bx,0,none⟩=some (.int .u64 (X c.a)):=by rw [hs6.cell?];rfl
   have y1:W6.cell? ⟨bx,1,none⟩=some (.int .u64 (X c.b)):=by rw [hs6.cell?];rfl
   have y2:W6.cell? ⟨bx,2,none⟩=some (.int .u64 (X c.c)):=by rw [hs6.cell?];rfl
   have y3:W6.cell? ⟨bx,3,none⟩=some (.int .u64 (X c.d)):=by rw [hs6.cell?];rfl
   have z0:W6.cell? ⟨sb,0,none⟩=some (.int .u64 (X s0.a)):=by rw [hS6.cell?];rfl
   have z1:W6.cell? ⟨sb,1,none⟩=some (.int .u64 (X s0.b)):=by rw [hS6.cell?];rfl
   have z2:W6.cell? ⟨sb,2,none⟩=some (.int .u64 (X s0.c)):=by rw [hS6.cell?];rfl
   have z3:W6.cell? ⟨sb,3,none⟩=some (.int .u64 (X s0.d)):=by rw [hS6.cell?];rfl
   clear wr
   have hci:=clInter W6 s0 c
   rw [inter_zip,hdj] at hci
   have HCI:=Lib.hid hci
   clear hci
   go_wp2_with fail
   refine HCI.out.mono ?_
   rintro e W7 ⟨rfl,hB7⟩
   have hsz:=hX6.size
   have hX7:=hX6.trans (hB7.mono (by omega))
   have hS7:=hS6.below hB7 hS6.lt
   have hs7:=hs6.below hB7 hs6.lt
   have HU:=Lib.hid (clUnion W7 s0 c)
   clear HCI y0 y1 y2 y3 z0 z1 z2 z3 hX6 hS6 hs6 hB7
   go_wp2_with (first
    | ((with_reducible refine zL hS7.at aggCl rfl (C:=clA s0) ?_))
    | ((with_reducible refine zL hs7.at aggCl rfl (C:=clA c) ?_)))
   refine HU.out.mono ?_
   rintro e W8 ⟨rfl,hB8⟩
   have hsz7:=hX7.size
   have hX8:=hX7.trans (hB8.mono (by omega))
   have hS8:=hS7.below hB8 hS7.lt
   clear HU hX7 hS7 hs7 hB8
   go_wp2_with ((with_reducible refine zS (l':=clL (s0.union c)) hS8 aggCl ?_);(intro W9 hs9 hG9 hz9))
   have hX9:=hX8.grown hG9 (by have:=hX8.size;omega) (fun k e=>by cases e;omega)
   rw [← HS.out] at hs9
   clear hX8 hS8 hG9 hz9
   go_roundw
   case rel=>exact ⟨k+1,by omega,by go_num,hs9,hX9⟩
   case measure=>simp [intOf];omega
  ·obtain rfl:k=m:=by omega
   have hun:=HV.out.un
   rw [Hm.out] at hun
   have hc:=clNot wr (seenK D.cls k)
   have hun':Cl.zip (fun x _=> ~~~x) (seenK D.cls k) (seenK D.cls k)=zeroC:=hun
   rw [hun'] at hc
   have HCN:=Lib.hid hc
   clear hun hun' hc
   generalize seenK D.cls k=s0 at *
   have hn:=clI_yes
   go_wp2_with ((with_reducible refine zL hS.at aggCl rfl (C:=clA s0) ?_))
   refine HCN.out.mono ?_
   rintro e W2 ⟨rfl,hB2⟩
   have hsz:=hX.size
   have hX2:=hX.trans (hB2.mono (by omega))
   clear HCN hS hX hB2
   have hD2:=HDR.out.below hX2 (by omega)
   have e1:W2.cell? ⟨db,1,none⟩=some (.slice pn n kn):=by rw [hD2.cell?];rfl
   have e0:∀X,Below W2.heap.size W2 X→X.cell? ⟨db,0,none⟩=some (.slice pc k kc):=fun X h=>by rw [(hD2.below h hD2.lt).cell?];rfl
   have HWB:Hid (Below w.heap.size w W2):=Lib.hid (by rw [hdb];exact hB1.trans (hX2.mono (by omega)))
   clear hX2 hD2 hsz
   go_wp2_with fail
   go_loopw [8,67] (fun _ i wr=>∃j:Nat,j≤n∧i= .int .i64 j∧Below W2.heap.size W2 wr) (fun _ i _=>n - (intOf i).toNat)
   case atStart=>exact ⟨0,by omega,rfl,Below.refl _ _⟩
   case round=>
    clear e1
    obtain ⟨j,hj,rfl,hX⟩:=hrel
    by_cases hjn:j<n
    ·have hq:(j:Int)<(n:Int):=by omega
     have hjl:j<D.nx.length:=by rw [Hn.out];exact hjn
     have hW1:Below w.heap.size w wr:=HWB.out.trans (hX.mono HWB.out.size)
     obtain ⟨nb,no,u,rfl,hcu,hrow,_,hnl⟩:=HN.out.elem j hjl
     have hcu1:wr.cell? ⟨nb,no+j,none⟩=some u:=(hW1.cell (p:=⟨nb,no+j,none⟩) hnl).trans hcu
     have hrl:=HV.out.rw _ (List.getElem_mem hjl)
     have hrb:=HV.out.rb _ (List.getElem_mem hjl)
     rw [Hm.out] at hrl
     rw [Hn.out] at hrb
     have hrow1:=hrow.below hW1
     generalize D.nx[j]=row at *
     obtain ⟨pr,cr,rfl⟩:=hrow1.slice
     rw [hrl] at hrow1 hcu1
     have HR:=Lib.hid hrow1
     have HRB:=Lib.hid hrb
     have HRL:=Lib.hid hrl
     have e0':=e0 wr hX
     have b2:((k:Int) !=(k:Int))=false:=by simp
     clear hcu hrow hrow1 hrb hrl hW1
     go_wp2_with fail
     obtain ⟨wo,Hwo⟩:∃wo:World,Hid (wo=wr):=⟨_,Lib.hid rfl⟩
     go_loopw [10,79] (fun _ i wq=>∃q:Nat,q≤k∧i= .int .i64 q∧wq=wo) (fun _ i _=>k - (intOf i).toNat)
     case atStart=>exact ⟨0,by omega,rfl,Hwo.out.symm⟩
     case round=>
      obtain ⟨q,hqk,rfl,rfl⟩:=hrel
      by_cases hlt:q<k
      ·have hq2:(q:Int)<(k:Int):=by omega
       obtain ⟨rb,ro,rfl,hct⟩:=rdN_at HR.out q hlt
       have ct:=hct _ (Below.refl _ _)
       rw [← Hwo.out] at ct
       have ht:row.getD q 0<n:=HRB.out _ (getD_mem _ _ _ (by rw [HRL.out];exact hlt))
       generalize row.getD q 0=t at *
       have ht1:((t:Nat):Int)<(n:Int):=by omega
       have dt1:decide ((t:Int)<0)=false:=by rw [decide_eq_false_iff_not];omega
       have dt2:decide ((n:Int)≤(t:Int))=false:=by rw [decide_eq_false_iff_not];omega
       clear hct
       go_wp2_with fail
       go_roundw
       case rel=>exact ⟨q+1,by omega,by go_num,trivial⟩
       case measure=>simp [intOf];omega
      ·have hq2:¬(q:Int)<(k:Int):=by omega
       go_wp2_with fail
       go_roundw
       case rel=>exact ⟨j+1,by omega,by go_num,by rw [Hwo.out];exact hX⟩
       case measure=>simp [intOf];omega
    ·have hq:¬(j:Int)<(n:Int):=by omega
     go_wp2
     go_ret
     have hfin:=HWB.out.trans (hX.mono HWB.out.size)
     rw [hdb] at hfin
     exact ⟨rfl,hfin⟩
end Go.Proofs.YtncnfncglacheaaGreatDoor
