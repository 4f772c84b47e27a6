/- Part of a proof. -/
import Derived.Test.YtngjelolnfgnbaaGreatDoorMCells
import Derived.Deep.SlicePairs
set_option linter.all false
set_option maxRecDepth 100000
set_option maxHeartbeats 64000000
namespace Go.Proofs.YtngjelolnfgnbaaGreatDoor
section
open Go Go.RowKit Mem
theorem Mem.Rd.len {α:Type} {f:α→Value} {w:World} {p:Option Addr} {n k:Nat} {l:List α} (h:Rd f w (.slice p n k) l):n=l.length:=by
 obtain ⟨_,_,he⟩:=h.slice;injection he
def fq {α:Type} (K:Nat) (enc:α→List OC) (w:World) (v:Value) (l:List α):Prop:=
 (∃p,v= .slice p 0 0∧l=[])∨∃b o cap,v= .slice (some ⟨b,o,none⟩) l.length cap∧l.length≤cap∧(∀i (h:i<l.length),At oV w b (o+i * K) (enc l[i]))∧b<w.heap.size
section
variable {α:Type} {K:Nat} {enc:α→List OC} {w w':World} {v:Value} {l:List α}
theorem fq.slice (h:fq K enc w v l):∃p cap,v= .slice p l.length cap:=by
 rcases h with ⟨p,rfl,rfl⟩ | ⟨b,o,cap,rfl,_⟩
 ·exact ⟨p,0,rfl⟩
 ·exact ⟨_,_,rfl⟩
theorem fq.below (h:fq K enc w v l) (hb:Below w.heap.size w w'):fq K enc w' v l:=by
 rcases h with hn | ⟨b,o,cap,rfl,hc,ha,hlt⟩
 ·exact .inl hn
 ·exact .inr ⟨b,o,cap,rfl,hc,fun i hi=>(ha i hi).below hb hlt,bY hlt hb.size⟩
theorem fq.elem {p:Option Addr} {n c:Nat} (h:fq K enc w (.slice p n c) l) (k:Nat) (hk:k<l.length):∃b o,p=some ⟨b,o,none⟩∧At oV w b (o+k * K) (enc l[k])∧l.length≤c∧b<w.heap.size:=by
 rcases h with ⟨_,_,rfl⟩ | ⟨b,o,cap,h1,hc,ha,hlt⟩
 ·simp at hk
 ·cases h1;exact ⟨b,o,rfl,ha k hk,hc,hlt⟩
end
def vY {α:Type} (R:World→Value→α→Prop) (w:World) (v:Value) (l:List α):Prop:=
 (∃p,v= .slice p 0 0∧l=[])∨∃b o cap,v= .slice (some ⟨b,o,none⟩) l.length cap∧l.length≤cap∧(∀i (h:i<l.length),∃u,w.cell? ⟨b,o+i,none⟩=some u∧R w u l[i])∧b<w.heap.size
section
variable {α:Type} {R:World→Value→α→Prop} {w w':World} {v:Value} {l:List α}
theorem vY.slice (h:vY R w v l):∃p cap,v= .slice p l.length cap:=by
 rcases h with ⟨p,rfl,rfl⟩ | ⟨b,o,cap,rfl,_⟩
 ·exact ⟨p,0,rfl⟩
 ·exact ⟨_,_,rfl⟩
theorem vY.below (h:vY R w v l) (hb:Below w.heap.size w w') (hR:∀u x,R w u x→R w' u x):vY R w' v l:=by
 rcases h with hn | ⟨b,o,cap,rfl,hc,ha,hlt⟩
 ·exact .inl hn
 ·refine .inr ⟨b,o,cap,rfl,hc,fun i hi=> ?_,bY hlt hb.size⟩;obtain ⟨u,h1,h2⟩:=ha i hi;exact ⟨u,(hb.cell (p:=⟨b,o+i,none⟩) hlt).trans h1,hR _ _ h2⟩
theorem vY.elem {p:Option Addr} {n c:Nat} (h:vY R w (.slice p n c) l) (k:Nat) (hk:k<l.length):∃b o u,p=some ⟨b,o,none⟩∧w.cell? ⟨b,o+k,none⟩=some u∧R w u l[k]∧l.length≤c∧b<w.heap.size:=by
 rcases h with ⟨_,_,rfl⟩ | ⟨b,o,cap,h1,hc,ha,hlt⟩
 ·simp at hk
 ·cases h1;obtain ⟨u,h1,h2⟩:=ha k hk;exact ⟨b,o,u,rfl,h1,h2,hc,hlt⟩
end
def nV (n:Nat):Value:= .int .i64 (n:Int)
end
section
open Go Go.RowKit Mem
theorem flat_get {α:Type} {K:Nat} (enc:α→List OC):∀(l:List α) (_:∀x∈l,(enc x).length=K) (i:Nat) (hi:i<l.length) (j:Nat),j<(enc l[i]).length→(l.flatMap enc)[i * K+j]?=(enc l[i])[j]?:=by
 intro l
 induction l with
 | nil=>intro _ i hi;simp at hi
 | cons a l ih=>
  intro hk i hi j hj;rw [FC];cases i with
  | zero=>
   simp only [Nat.zero_mul,tJ,List.getElem_cons_zero] at hj ⊢;rw [Fg hj]
  | succ i=>
   simp only [List.getElem_cons_succ] at hj ⊢;have ha:(enc a).length=K:=hk a (uF ..);rw [Ik (by rw [ha,Dq];omega),ha];rw [show (i+1) * K+j - K=i * K+j by rw [Dq];omega];exact ih (fun x hx=>hk x (zw _ hx)) i (by simpa using hi) j hj
def bf {α:Type} (K:Nat) (enc:α→List OC) (w:World) (base:Nat) (e:TypeId) (v:Value) (l:List α):Prop:=w.ownsRow base e K v l.length ((l.flatMap enc).map oV)
section
variable {α:Type} {K:Nat} {enc:α→List OC} {w w':World} {base:Nat} {e:TypeId} {v:Value} {l:List α}
theorem bf.slice (h:bf K enc w base e v l):∃p cap,v= .slice p l.length cap:=by
 rcases h.2 with ⟨rfl,h0⟩ | ⟨g,cap,cur,rfl,_⟩
 ·exact ⟨none,0,by rw [h0]⟩
 ·exact ⟨_,_,rfl⟩
theorem bf.grown (h:bf K enc w base e v l) {row:Option Nat} (hg:w.grownBy w' row) (hne:∀g,v.ownBlock=some g→some g≠row):bf K enc w' base e v l:=by
 refine ⟨h.1,?_⟩;rcases h.2 with hn | ⟨g,cap,cur,rfl,hbg,hc,rest⟩
 ·exact .inl hn
 ·exact .inr ⟨g,cap,cur,rfl,hbg,(hg.block g (qM.1 hc).1 (hne g rfl)).trans hc,rest⟩
theorem bf.below (h:bf K enc w base e v l) {B:Nat} (hb:Below B w w') (hB:∀g,v.ownBlock=some g→g<B):bf K enc w' base e v l:=by
 refine ⟨h.1,?_⟩;rcases h.2 with hn | ⟨g,cap,cur,rfl,hbg,hc,rest⟩
 ·exact .inl hn
 ·exact .inr ⟨g,cap,cur,rfl,hbg,(hb.block g (hB g rfl)).trans hc,rest⟩
theorem bf.lt (h:bf K enc w base e v l):∀g,v.ownBlock=some g→base≤g∧g<w.heap.size:=by
 intro g hg;rcases h.2 with ⟨rfl,_⟩ | ⟨g2,cap,cur,rfl,hbg,hc,_⟩
 ·cases hg
 ·cases hg;exact ⟨hbg,(qM.1 hc).1⟩
theorem bf.below' (h:bf K enc w base e v l) (hb:Below w.heap.size w w'):bf K enc w' base e v l:=h.below hb fun g hg=>(h.lt g hg).2
theorem bf.mono (h:bf K enc w base e v l) {b':Nat} (hb:b'≤base):bf K enc w b' e v l:=by
 refine ⟨h.1,?_⟩;rcases h.2 with hn | ⟨g,cap,cur,rfl,hbg,rest⟩
 ·exact .inl hn
 ·exact .inr ⟨g,cap,cur,rfl,gp hb hbg,rest⟩
theorem bf.rd (h:bf K enc w base e v l) (hk:∀x,(enc x).length=K):fq K enc w v l:=by
 rcases h.2 with ⟨rfl,h0⟩ | ⟨g,cap,cur,rfl,hb,hg,hn,hm,hs,ht⟩
 ·exact .inl ⟨none,rfl,tQ.1 h0⟩
 ·refine .inr ⟨g,0,cap,rfl,hn,fun i hi j hj=> ?_,(qM.1 hg).1⟩
  have h1:((l.flatMap enc).map oV)[i * K+j]?=(enc l[i])[j]?.map oV:=by
   rw [sW,flat_get enc l (fun x _=>hk x) i hi j hj]
  have hlt:i * K+j<l.length * K:=by
   have:(i+1) * K≤l.length * K:=Nat.mul_le_mul_right K hi;rw [hk] at hj;rw [Dq] at this;omega
  rw [← ht,nA hlt] at h1;unfold World.cell?;rw [hg];simp only [tJ];show cur[i * K+j]?=_;rw [← h1];simp
theorem bf.nil (w:World) (base:Nat) (e:TypeId):bf K enc w base e (.slice none 0 0) ([]:List α):=World.ownsRow_nil w base e K
theorem bf.IA (w:World) (base:Nat) (e:TypeId) (hb:base≤w.heap.size):bf K enc (w.alloc (.cells #[] e)) base e (.slice (some ⟨w.heap.size,0,none⟩) 0 0) ([]:List α):=
 ⟨by simp, .inr ⟨w.heap.size,0,_,rfl,hb,heap_alloc_new w _,aj _,by unfold maxLen;omega,by simp,by simp⟩⟩
theorem bf.type {β:Type} {g:β→Value} {b2:Nat} {e2:TypeId} {v2:Value} {l2:List β} (h1:bf K enc w base e v l) (h2:Mem.Own g w b2 e2 v2 l2) (hne:e≠e2):∀k,v.ownBlock=some k→some k≠v2.ownBlock:=by
 intro k hk e;rcases h1.2 with ⟨rfl,_⟩ | ⟨g1,c1,F5,rfl,_,hc1,_⟩
 ·cases hk
 ·rcases h2.2 with ⟨rfl,_⟩ | ⟨g2,c2,JK,rfl,_,hc2,_⟩
  ·cases e
  ·cases hk;injection e with e
   simp only at e;subst e;rw [hc1] at hc2;injection hc2 with hc2
   injection hc2 with _ hc2
   exact hne hc2
theorem bf.row {β:Type} {g:β→Value} {b2:Nat} {e2:TypeId} {l2:List β} (h1:bf K enc w base e v l) (h2:Row g w b2 e2 l2) (hne:e≠e2):∀k,v.ownBlock=some k→k≠b2:=by
 rintro k hk rfl;rcases h1.2 with ⟨rfl,_⟩ | ⟨g1,c1,F5,rfl,_,hc1,_⟩
 ·cases hk
 ·cases hk;unfold Row at h2;rw [hc1] at h2;injection h2 with hc2
  injection hc2 with _ hc2
  exact hne hc2
end
structure yU (P:Program) (t e:TypeId) (K bytes:Nat):Prop where
 ht:P.underlying t=some (.slice e)
 hi:∃i z,P.info? e=some i∧i.zero=some z∧i.size=K∧i.bytes=bytes∧z.cells.size=K
theorem yU.mk' {P:Program} {t e:TypeId} {K bytes:Nat} {z:Value} (ht:P.underlying t=some (.slice e)) (h:(P.info? e).map (fun i=>(i.zero,i.size,i.bytes))=some (some z,K,bytes)) (hz:z.cells.size=K):yU P t e K bytes:=by
 obtain ⟨i,h1,h2,h3,h4⟩:=info_parts h;exact ⟨ht,i,z,h1,h2,h3,h4,hz⟩
section
variable {α:Type} {K:Nat} {enc:α→List OC} {w:World} {base:Nat} {e:TypeId} {v:Value} {l:List α}
variable {P:Program} {ops:Array Oper} {rest:List Oper} {o:Oper} {a:Act} {Q:Exit→Act→World→Prop}
theorem pJ {t:TypeId} {bytes:Nat} (E:yU P t e K bytes) (hK:0<K) (hk:∀x,(enc x).length=K) (s x:Operand) (hgd:o.guard=none) (ho:o.op= .call {callee:= .builtin .append,args:= #[s,x],argTypes:= #[t,t]})
  (hs:a.eval s=v) (hown:bf K enc w base e v l) (y:α) (C:Array Value) (hC:C=((enc y).map oV).toArray) (e1:TypeId) (hx:a.eval x= .slice (some ⟨w.heap.size,0,none⟩) 1 1)
  (hn:(l.length+1) * bytes≤140737488355328) (hn2:l.length+1≤140737488355328) (hbase:base≤w.heap.size) (r:List α) (hr:l++[y]=r)
  (h:∀p cap w',bf K enc w' base e (.slice p r.length cap) r→Below base w w'→(w.alloc (.cells C e1)).grownBy w' v.ownBlock→wpList P ops Q rest (a.put o.dst (.slice p r.length cap)) w'):
  wpList P ops Q (o::rest) a (w.alloc (.cells C e1)):=by
 subst hC;obtain ⟨i,z,hi,hz,hs1,hby,hz1⟩:=E.hi;have hown':(w.alloc (.cells ((enc y).map oV).toArray e1)).ownsRow base e K v l.length ((l.flatMap enc).map oV):=World.ownsRow.alloc hown _;have hrow:Row oV (w.alloc (.cells ((enc y).map oV).toArray e1)) w.heap.size e1 (enc y):=Row.new _ _ rfl;refine wpList_append_own _ hgd s x t ho base e i z K bytes E.ht hi hz hs1 hby hz1 hK v l.length ((l.flatMap enc).map oV) hs hown' ⟨w.heap.size,0,none⟩ 1 1 ((enc y).map oV) hx (by simp [hk]) ?_ ?_ (by unfold maxLen;omega) hn (by simp;omega) ?_
 ·intro j u hj;have h2:((⟨w.heap.size,0,none⟩:Addr).add j)=⟨w.heap.size,j,none⟩:=by unfold Addr.add;split<;>simp_all
  rw [h2,hrow.cell?,← hj,sW]
 ·intro u hu;obtain ⟨z,_,rfl⟩:=zM.1 hu;exact z.2
 ·intro v' w1 hown2 hg hnil
  have ho':bf K enc w1 base e v' r:=by
   unfold bf;rw [← hr,fG,List.flatMap_append,Em];simpa using hown2
  obtain ⟨p,cap,rfl⟩:=ho'.slice;exact h p cap w1 ho' (((aI base w).alloc hbase _).trans ((aI base _).grown hg (by simp;omega) (fun k hk=>(hown.lt k hk).1))) hg
end
section
variable {α:Type} {K:Nat} {enc:α→List OC} {w:World} {base:Nat} {e:TypeId} {l:List α}
variable {P:Program} {ops:Array Oper} {rest:List Oper} {o:Oper} {a:Act} {Q:Exit→Act→World→Prop}
end
end
end Go.Proofs.YtngjelolnfgnbaaGreatDoor
