/- A region that draws its order: one proof for each operation; operations without a destination (stores) may stand among the first n; a ghost value for each. -/
import Derived.Test.YtncnfncglacheaaGreatDoorMCells
import Derived.Test.YtncnfncglacheaaGreatDoorMHeldD
import Derived.RegionTactic
namespace Go.Proofs.YtncnfncglacheaaGreatDoor.Mem
open Go Go.RowKit
def setAll:Array Value→List Nat→List Value→Array Value
 | t,d::ds,v::vs=>setAll (t.setIfInBounds d v) ds vs
 | t,_,_=>t
theorem getD_set_at (t:Array Value) (d k:Nat) (v u:Value):(t.setIfInBounds d v).getD k u=if d=k∧d<t.size then v else t.getD k u:=by
 simp only [Array.getD_eq_getD_getElem?,Array.getElem?_setIfInBounds]
 by_cases h:d=k
 ·subst h
  by_cases h2:d<t.size
  ·simp [h2]
  ·simp [h2,Array.getElem?_eq_none (Nat.le_of_not_lt h2)]
 ·simp [h]
def depB (o:Oper) (j:Nat):Bool:=o.after.any fun e=>e.on==j && Region.binds .any e
section
variable {P:Program} {l:List Oper} {Q:Exit→Act→World→Prop} {a0:Act} {w0:World} {n:Nat} {D:List Nat} {Φ:Nat→Value→World→Prop}
theorem free_value {o:Oper} {a:Act} {w w':World} {K:Act→World→Prop} {v:Value} (he:(execOp a.eval o).run P w= .ok (.value v) w') (h:K (a.put o.dst v) w'):o.wp P a w K Q:=by
 unfold Oper.wp
 rw [he]
 exact h
theorem free_call {o:Oper} {a:Act} {w:World} {K:Act→World→Prop} {g:FuncId} {args:Array Value} (hg:o.guard=none) (he:(execOp a.eval o).run P w= .ok (.enter g args) w) (h:Calls P g args w fun e w'=>∃v,e= .returned v∧K (a.put o.dst v) w'):o.wp P a w K Q:=by
 have hw:∀y,Region.wanted o y=true:=fun y=>by unfold Region.wanted;rw [hg]
 have:=held_call (X:=True) (ops:= #[]) (Q:=Q) (hw _) he h
 rwa [if_pos (hw _)] at this
theorem free_load {α:Type} {f:α→Value} {lv:List α} {o:Oper} {a:Act} {w:World} {K:Act→World→Prop} {ty:TypeId} (T:AggT P ty lv.length) (x:Operand) (ho:o.op= .load ty x) (b off:Nat) (hx:a.eval x= .pointer (some ⟨b,off,none⟩)) (h:At f w b off lv)
  {C:Array Value} (hC:C=(lv.map f).toArray) (hk:K (a.put o.dst (.agg C)) w):o.wp P a w K Q:=by
 subst hC
 refine free_value ?_ hk
 unfold execOp
 simp only [ho,hx,Instr.loadAt,Instr.sureAddr,Sem.run_bind,Sem.run_pure,Result.andThen_ok,run_load_agg T h]
end
end Go.Proofs.YtncnfncglacheaaGreatDoor.Mem
namespace Go.Proofs.YtncnfncglacheaaGreatDoor.Mem
open Go Go.RowKit
section
variable {P:Program} {l:List Oper} {Q:Exit→Act→World→Prop} {a0:Act} {w0:World} {n:Nat} {D:List Nat} {Φ:Nat→Value→World→Prop} {Ψ:Nat→Nat→Value→Value→Prop}
end
end Go.Proofs.YtncnfncglacheaaGreatDoor.Mem
namespace Go.Proofs.YtncnfncglacheaaGreatDoor.Mem
open Go Go.RowKit
def setOpt:Array Value→List (Option Nat)→List Value→Array Value
 | t,some d::ds,v::vs=>setOpt (t.setIfInBounds d v) ds vs
 | t,none::ds,_::vs=>setOpt t ds vs
 | t,_,_=>t
theorem setOpt_size:∀(D:List (Option Nat)) (vs:List Value) (t:Array Value),(setOpt t D vs).size=t.size
 | [],_,_=>rfl
 | some _::_,[],_=>rfl
 | none::_,[],_=>rfl
 | some d::D,v::vs,t=>by rw [setOpt,setOpt_size D vs];simp
 | none::D,v::vs,t=>by rw [setOpt,setOpt_size D vs]
theorem getD_setOpt:∀(D:List (Option Nat)) (vs:List Value) (t:Array Value) (k:Nat),(D.filterMap id).Nodup→D.length=vs.length→(∀d,some d∈D→d<t.size)→
  (some k∉D→(setOpt t D vs).getD k undef=t.getD k undef)∧∀i d,D[i]?=some (some d)→(setOpt t D vs).getD d undef=vs.getD i undef
 | [],[],t,k,_,hl,_=>⟨fun _=>rfl,fun i d h=>by simp at h⟩
 | [],_::_,t,k,_,hl,_=>by cases hl
 | d::D,[],t,k,_,hl,_=>by cases hl
 | none::D,v::vs,t,k,hn,hl,hs=>by
  have ih:=getD_setOpt D vs t k (by simpa using hn) (by simpa using hl) (fun d h=>hs d (List.mem_cons_of_mem _ h))
  refine ⟨fun hk=> ?_,fun i d h=> ?_⟩
  ·exact ih.1 fun h=>hk (List.mem_cons_of_mem _ h)
  ·cases i with
   | zero=>simp at h
   | succ i=>exact ih.2 i d (by simpa using h)
 | some d::D,v::vs,t,k,hn,hl,hs=>by
  have hn':d∉D.filterMap id∧(D.filterMap id).Nodup:=by simpa using hn
  have ih:=fun k=>getD_setOpt D vs (t.setIfInBounds d v) k hn'.2 (by simpa using hl) (fun e he=>by rw [Array.size_setIfInBounds];exact hs e (List.mem_cons_of_mem _ he))
  have hd:some d∉D:=fun h=>hn'.1 (List.mem_filterMap.2 ⟨some d,h,rfl⟩)
  refine ⟨fun hk=> ?_,fun i e h=> ?_⟩
  ·rw [List.mem_cons,not_or] at hk
   show (setOpt (t.setIfInBounds d v) D vs).getD k undef=_
   rw [(ih k).1 hk.2,getD_set_at,if_neg (fun e=>hk.1 (by rw [e.1]))]
  ·cases i with
   | zero=>
    have he:d=e:=by simpa using h
    subst he
    show (setOpt (t.setIfInBounds d v) D vs).getD d undef=v
    rw [(ih d).1 hd,getD_set_at,if_pos ⟨rfl,hs d List.mem_cons_self⟩]
   | succ i=>exact (ih 0).2 i e (by simpa using h)
def freeB3 (l:List Oper) (n:Nat) (D:List (Option Nat)):Bool:=
 tailB l.toArray n && decide ((l.take n).map (·.dst)=D) && ((l.take n).all fun o=>o.guard.isNone) && ((List.range n).all fun i=>((l[i]?).map fun o=>o.after.all fun e=> !Region.binds .any e || decide (e.on<i)).getD false) && decide (D.filterMap id).Nodup &&
  Region.seqB .any l.toArray (l.length - n) n (List.replicate n true++List.replicate (l.length - n) false).toArray
section
variable {P:Program} {l:List Oper} {Q:Exit→Act→World→Prop} {a0:Act} {w0:World} {n:Nat} {D:List (Option Nat)} {G:(Nat→Bool)→World→Prop} {Φ:Nat→Value→World→Prop} {Ψ:Nat→Nat→Value→Value→Prop}
structure Known (l:List Oper) (D:List (Option Nat)) (Φ:Nat→Value→World→Prop) (Ψ:Nat→Nat→Value→Value→Prop) (n:Nat) (a0:Act) (dn:Nat→Bool) (val:Nat→Value) (a:Act) (w:World):Prop where
 old:∀k,some k∉D→a.tmps.getD k undef=a0.tmps.getD k undef
 slot:∀i,i<n→dn i=true→∀d,D[i]?=some (some d)→a.tmps.getD d undef=val i
 got:∀i,i<n→dn i=true→Φ i (val i) w
 two:∀i j,i<n→j<n→i≠j→dn i=true→dn j=true→Ψ i j (val i) (val j)
 clo:∀(i:Nat) (o:Oper),i<n→l[i]?=some o→dn i=true→∀k,depB o k=true→dn k=true
def StepOk (P:Program) (l:List Oper) (Q:Exit→Act→World→Prop) (D:List (Option Nat)) (G:(Nat→Bool)→World→Prop) (Φ:Nat→Value→World→Prop) (Ψ:Nat→Nat→Value→Value→Prop) (n:Nat) (a0:Act):Prop:=
 ∀(i:Nat) (o:Oper),i<n→l[i]?=some o→∀(a:Act) (w:World) (dn:Nat→Bool) (val:Nat→Value),Known l D Φ Ψ n a0 dn val a w→(∀j,depB o j=true→dn j=true)→dn i=false→G dn w→
  o.wp P a w (fun a' w'=>∃v,a'=a.put o.dst v∧G (fun k=>if k=i then true else dn k) w'∧Φ i v w'∧∀j,j<n→j≠i→dn j=true→Φ j (val j) w'∧Ψ i j v (val j)∧Ψ j i (val j) v) Q
theorem headsH_free3 (hB:freeB3 l n D=true) (hsz:(D.all fun d=>(d.map fun d=>decide (d<a0.tmps.size)).getD true)=true) (step:StepOk P l Q D G Φ Ψ n a0)
  (fin:∀(vs:List Value) (w:World) (dn:Nat→Bool),vs.length=n→(∀i,i<n→Φ i (vs.getD i undef) w)→(∀i j,i<n→j<n→i≠j→Ψ i j (vs.getD i undef) (vs.getD j undef))→(∀i,i<n→dn i=true)→G dn w→wpList P l.toArray Q (l.drop n) {a0 with tmps:=setOpt a0.tmps D vs} w):
  ∀(f:Nat) (U:List Nat) (s:Array Bool) (val:Nat→Value) (a:Act) (w:World),U.length=f→U.Nodup→(∀i,i∈U↔i<n∧s.getD i true=false)→HeadInv .any l.toArray n s→a.defers=a0.defers→a.tmps.size=a0.tmps.size→Known l D Φ Ψ n a0 (fun i=>s.getD i false) val a w→G (fun i=>s.getD i false) w→
   HeadsH P l.toArray Q (fun _=>True) n (fun s' a' w'=>Region.seqB .any l.toArray (l.length - n) n s'=true∧wpList P l.toArray Q (l.drop n) a' w') f s a w:=by
 simp only [freeB3,Bool.and_eq_true,decide_eq_true_eq,List.all_eq_true,List.mem_range] at hB hsz
 obtain ⟨⟨⟨⟨⟨hT,hD⟩,hG⟩,hE⟩,hN⟩,hSeq⟩:=hB
 have hT':=hT
 simp only [tailB,Bool.and_eq_true,decide_eq_true_eq] at hT'
 have hnl:n<l.length:=by simpa using hT'.2
 have hDl:D.length=n:=by
  have:=congrArg List.length hD
  simpa [Nat.min_eq_left (Nat.le_of_lt hnl)] using this.symm
 have hszD:∀d,some d∈D→d<a0.tmps.size:=fun d hd=>by
  have:=hsz _ hd
  simpa using this
 have hdst:∀i o,i<n→l[i]?=some o→D[i]?=some o.dst:=by
  intro i o hi ho
  rw [← hD,List.getElem?_map,List.getElem?_take_of_lt hi,ho];rfl
 have hinj:∀i j d,D[i]?=some (some d)→D[j]?=some (some d)→i=j:=fun i j d hi hj=>by
  have hgen:∀(D:List (Option Nat)),(D.filterMap id).Nodup→∀i j:Nat,i<j→D[i]?=some (some d)→D[j]?=some (some d)→False:=by
   intro D
   induction D with
   | nil=>intro _ i j _ h;simp at h
   | cons x D ih=>
    intro hn i j hij h1 h2
    cases i with
    | zero=>
     have hx:x=some d:=by simpa using h1
     subst hx
     cases j with
     | zero=>omega
     | succ j=>
      have h3:some d∈D:=List.mem_iff_getElem?.2 ⟨j,by simpa using h2⟩
      have hn':d∉D.filterMap id∧(D.filterMap id).Nodup:=by simpa using hn
      exact hn'.1 (List.mem_filterMap.2 ⟨some d,h3,rfl⟩)
    | succ i=>
     cases j with
     | zero=>omega
     | succ j=>
      refine ih ?_ i j (by omega) (by simpa using h1) (by simpa using h2)
      cases x with
      | none=>simpa using hn
      | some y=>exact (show y∉D.filterMap id∧(D.filterMap id).Nodup by simpa using hn).2
  rcases Nat.lt_trichotomy i j with hlt | he | hlt
  ·exact absurd (hgen D hN i j hlt hi hj) id
  ·exact he
  ·exact absurd (hgen D hN j i hlt hj hi) id
 intro f
 induction f with
 | zero=>
  intro U s val a w hU hUn hUm inv hdf hasz hI hS
  have hU0:U=[]:=List.length_eq_zero_iff.1 hU
  subst hU0
  have hs:s=(List.replicate n true++List.replicate (l.length - n) false).toArray:=by
   have hss:=inv.size
   simp only [List.size_toArray] at hss
   apply Array.ext
   ·simp [hss];omega
   ·intro i h1 h2
    have hil:i<l.length:=by omega
    by_cases hin:i<n
    ·have h3:¬(s.getD i true=false):=fun h=>by have:=(hUm i).2 ⟨hin,h⟩;cases this
     have h4:s.getD i true=s[i]:=by simp [Array.getD,h1]
     rw [h4] at h3
     have h5:s[i]=true:=by simpa using h3
     rw [h5]
     simp [List.getElem_append,hin]
    ·have h3:=inv.tail i (by omega) (by simpa using hil)
     have h4:s.getD i true=s[i]:=by simp [Array.getD,h1]
     rw [h4] at h3
     rw [h3]
     simp [List.getElem_append,hin]
  refine ⟨by rw [hs];exact hSeq,?_⟩
  have hst:∀i,i<n→s.getD i false=true:=fun i hi=>by
   rw [hs]
   simp only [Array.getD_eq_getD_getElem?,List.getElem?_toArray]
   rw [List.getElem?_append_left (by simpa using hi),List.getElem?_replicate,if_pos hi]
   rfl
  have hvl:((List.range n).map val).length=n:=by simp
  have hvg:∀i,i<n→((List.range n).map val).getD i undef=val i:=fun i hi=>by
   rw [List.getD_eq_getElem?_getD,List.getElem?_map,List.getElem?_range hi]
   rfl
  have ha:a={a0 with tmps:=setOpt a0.tmps D ((List.range n).map val)}:=by
   obtain ⟨t,df⟩:=a
   have h3:=hI.old
   simp only at hdf hasz h3
   subst hdf
   congr 1
   have hga:=fun k=>getD_setOpt D ((List.range n).map val) a0.tmps k hN (by simp [hDl]) hszD
   apply Array.ext
   ·rw [setOpt_size,hasz]
   ·intro k hk1 hk2
    have e1:t.getD k undef=t[k]:=by simp [Array.getD,hk1]
    have e2:(setOpt a0.tmps D ((List.range n).map val)).getD k undef=(setOpt a0.tmps D ((List.range n).map val))[k]:=by unfold Array.getD;exact dif_pos hk2
    rw [← e1,← e2]
    by_cases hkD:some k∈D
    ·obtain ⟨i,hi⟩:=List.mem_iff_getElem?.1 hkD
     have hin:i<n:=by rw [← hDl];exact (List.getElem?_eq_some_iff.1 hi).1
     rw [(hga 0).2 i k hi,hvg i hin]
     exact hI.slot i hin (hst i hin) k hi
    ·rw [(hga k).1 hkD,h3 k hkD]
  rw [ha]
  exact fin _ w _ hvl (fun i hi=>by rw [hvg i hi];exact hI.got i hi (hst i hi)) (fun i j hi hj hne=>by rw [hvg i hi,hvg j hj];exact hI.two i j hi hj hne (hst i hi) (hst j hj)) hst hS
 | succ f ih=>
  intro U s val a w hU hUn hUm inv hdf hasz hI hS
  have hex:∀(m i:Nat),i≤m→i<n→s.getD i true=false→∃j,j∈Region.ready .any l.toArray s:=by
   intro m
   induction m with
   | zero=>
    intro i him hin hun
    obtain rfl:i=0:=by omega
    refine ⟨0,mem_ready.2 ⟨hun,l[0],by simp,fun e he hb=> ?_⟩⟩
    have:=hE 0 hin
    rw [List.getElem?_eq_getElem (by omega)] at this
    simp only [Option.map_some,Option.getD_some,Array.all_eq_true_iff_forall_mem] at this
    have h2:=this e he
    simp [hb] at h2
   | succ m ihm=>
    intro i him hin hun
    by_cases hall:∀e∈(l[i]'(by omega)).after,Region.binds .any e=true→s.getD e.on false=true
    ·exact ⟨i,mem_ready.2 ⟨hun,l[i]'(by omega),by simp,hall⟩⟩
    ·obtain ⟨e,he⟩:=Classical.not_forall.1 hall
     obtain ⟨h1,he⟩:=Classical.not_imp.1 he
     obtain ⟨h2,h3⟩:=Classical.not_imp.1 he
     have:=hE i hin
     rw [List.getElem?_eq_getElem (by omega)] at this
     simp only [Option.map_some,Option.getD_some,Array.all_eq_true_iff_forall_mem] at this
     have h4:=this e h1
     rw [h2] at h4
     simp only [Bool.not_true,Bool.false_or,decide_eq_true_eq] at h4
     have h5:e.on<s.size:=by rw [inv.size];simp;omega
     refine ihm e.on (by omega) (by omega) ?_
     have h6:s.getD e.on false=false:=by cases hh:s.getD e.on false;rfl;exact absurd hh h3
     exact getD_in h5 h6
  obtain ⟨i1,hi1⟩:∃i1,i1∈U:=by cases U with
   | nil=>cases hU
   | cons x U=>exact ⟨x,List.mem_cons_self⟩
  have hi1':=(hUm i1).1 hi1
  obtain ⟨j0,hj0⟩:=hex i1 i1 (Nat.le_refl _) hi1'.1 hi1'.2
  refine ⟨List.ne_nil_of_mem hj0,fun i hi=> ?_⟩
  have hin:i<n:=Nat.lt_of_not_le fun h=>tail_waits hT'.1.1.2 hT'.1.2 (by simpa using hnl) inv _ i1 rfl hi1'.1 hi1'.2 i h hi
  refine ⟨hin,?_⟩
  obtain ⟨hun,o,ho,hall⟩:=mem_ready.1 hi
  have hol:l[i]?=some o:=by simpa using ho
  have hgd:o.guard=none:=by
   have h:=hG o (by rw [List.mem_iff_getElem?];exact ⟨i,by rw [List.getElem?_take_of_lt hin];exact hol⟩)
   cases hh:o.guard with
   | none=>rfl
   | some g=>rw [hh] at h;cases h
  have hiU:i∈U:=(hUm i).2 ⟨hin,hun⟩
  refine wpOp_step ho fun K' hK=> ?_
  rw [if_pos (by unfold Region.wanted;rw [hgd])]
  have hdep:∀j,depB o j=true→s.getD j false=true:=fun j hj=>by
   simp only [depB,Array.any_eq_true,Bool.and_eq_true,beq_iff_eq] at hj
   obtain ⟨k,hk,he,hb⟩:=hj
   have hjs:=hall _ (Array.getElem_mem hk) hb
   rw [he] at hjs
   exact hjs
  have hst:=step i o hin hol a w (fun i=>s.getD i false) val hI hdep (by
    have h6:i<s.size:=by rw [inv.size];simp;omega
    have h7:s.getD i true=s[i]:=by simp [Array.getD,h6]
    rw [h7] at hun
    simp [Array.getD,h6,hun]) hS
  refine Oper.wp_mono (fun a' w' h=> ?_) hst
  obtain ⟨v,rfl,hS',hv,htw⟩:=h
  have hod:=hdst i o hin hol
  have hput:(a.put o.dst v).defers=a.defers∧(a.put o.dst v).tmps.size=a.tmps.size∧(∀k,o.dst≠some k→(a.put o.dst v).tmps.getD k undef=a.tmps.getD k undef)∧∀d,o.dst=some d→(a.put o.dst v).tmps=a.tmps.setIfInBounds d v:=by
   cases o.dst with
   | none=>exact ⟨rfl,rfl,fun _ _=>rfl,fun _ h=>by cases h⟩
   | some d=>exact ⟨rfl,by simp [Act.put],fun k hk=>by
     show (a.tmps.setIfInBounds d v).getD k undef=_
     rw [getD_set_at,if_neg (fun e=>hk (by rw [e.1]))],fun e h=>by cases h;rfl⟩
  obtain ⟨p1,p2,p3,p4⟩:=hput
  have hGe:(fun k=>if k=i then true else s.getD k false)=(fun k=>(s.setIfInBounds i true).getD k false):=by
   funext k
   by_cases hki:k=i
   ·subst hki
    have h6:k<s.size:=by rw [inv.size];simp;omega
    simp [Array.getD,h6]
   ·rw [if_neg hki,getD_set_ne false (by omega)]
  refine hK _ _ ⟨trivial,ih (U.erase i) _ (fun j=>if j=i then v else val j) _ _ (by rw [List.length_erase_of_mem hiU,hU];rfl) (hUn.erase i) ?_ (inv.set hi hin) (p1.trans hdf) (p2.trans hasz) ⟨?_,?_,?_,?_,?_⟩ (hGe▸hS')⟩
  ·intro j
   rw [hUn.mem_erase_iff,hUm j]
   by_cases hji:j=i
   ·subst hji
    have hsz2:j<s.size:=by rw [inv.size];simp;omega
    simp [Array.getD,hsz2]
   ·rw [getD_set_ne true (by omega)]
    simp [hji]
  ·intro k hk
   rw [p3 k (fun e=>hk (List.mem_iff_getElem?.2 ⟨i,by rw [hod,e]⟩))]
   exact hI.old k hk
  ·intro j hj hjs d hd
   by_cases hji:j=i
   ·subst hji
    rw [if_pos rfl]
    have hd2:o.dst=some d:=by rw [hod] at hd;simpa using hd
    rw [p4 d hd2,getD_set_at,if_pos ⟨rfl,by rw [hasz];exact hszD d (List.mem_iff_getElem?.2 ⟨j,hd⟩)⟩]
   ·rw [if_neg hji,p3 d (fun e=>hji (hinj _ _ d hd (by rw [hod,e])))]
    rw [getD_set_ne false (by omega)] at hjs
    exact hI.slot j hj hjs d hd
  ·intro j hj hjs
   by_cases hji:j=i
   ·subst hji;rw [if_pos rfl];exact hv
   ·skip
    rw [getD_set_ne false (by omega)] at hjs
    rw [if_neg hji];exact (htw j hj hji hjs).1
  ·intro j k hj hk hne hjs hks
   by_cases hji:j=i
   ·subst hji
    have hki:k≠j:=fun e=>hne e.symm
    rw [getD_set_ne false (by omega)] at hks
    rw [if_pos rfl,if_neg hki]
    exact (htw k hk hki hks).2.1
   ·rw [getD_set_ne false (by omega)] at hjs
    by_cases hki:k=i
    ·subst hki
     rw [if_neg hji,if_pos rfl]
     exact (htw j hj hji hjs).2.2
    ·rw [getD_set_ne false (by omega)] at hks
     rw [if_neg hji,if_neg hki]
     exact hI.two j k hj hk hne hjs hks
  ·intro j o' hj ho' hjs k hk
   have hset:s.getD k false=true→(s.setIfInBounds i true).getD k false=true:=fun h=>by
    by_cases hki:k=i
    ·subst hki
     have h6:k<s.size:=by rw [inv.size];simp;omega
     simp [Array.getD,h6]
    ·rw [getD_set_ne false (by omega)];exact h
   by_cases hji:j=i
   ·subst hji
    rw [hol] at ho'
    injection ho' with ho'
    subst ho'
    exact hset (hdep k hk)
   ·rw [getD_set_ne false (by omega)] at hjs
    exact hset (hI.clo j o' hj ho' hjs k hk)
theorem region_free3 {id:Nat} (n:Nat) (D:List (Option Nat)) (G:(Nat→Bool)→World→Prop) (Φ:Nat→Value→World→Prop) (Ψ:Nat→Nat→Value→Value→Prop) (hm:P.follows .mixedOrders=true) (hB:freeB3 l n D=true) (hsz:(D.all fun d=>(d.map fun d=>decide (d<a0.tmps.size)).getD true)=true) (hG0:G (fun _=>false) w0.drew)
  (step:StepOk P l Q D G Φ Ψ n a0)
  (fin:∀(vs:List Value) (w:World) (dn:Nat→Bool),vs.length=n→(∀i,i<n→Φ i (vs.getD i undef) w)→(∀i j,i<n→j<n→i≠j→Ψ i j (vs.getD i undef) (vs.getD j undef))→(∀i,i<n→dn i=true)→G dn w→wpList P l.toArray Q (l.drop n) {a0 with tmps:=setOpt a0.tmps D vs} w):
  (Code.region id l.toArray true).wp P Q a0 w0:=by
 have hT:tailB l.toArray n=true:=by
  simp only [freeB3,Bool.and_eq_true] at hB
  exact hB.1.1.1.1.1
 refine region_headsT (S:=fun _=>True) n hm hT trivial fun _ inv=> ?_
 have hnl:n<l.length:=by
  simp only [tailB,Bool.and_eq_true,decide_eq_true_eq] at hT
  simpa using hT.2
 have hno:∀i,(Array.replicate l.length false).getD i false=true→False:=fun i h=>by rw [getD_replicate_false] at h;cases h
 refine headsH_free3 hB hsz step fin n (List.range n) _ (fun _=>undef) a0 _ (by simp) List.nodup_range (fun i=> ?_) inv rfl rfl ⟨fun _ _=>rfl,fun i hi h=> ?_,fun i hi h=> ?_,fun i j hi hj _ h=> ?_,fun i o hi _ h=> ?_⟩ (by simp only [getD_replicate_false];exact hG0)
 ·rw [List.mem_range]
  refine ⟨fun h=>⟨h,?_⟩,fun h=>h.1⟩
  have:i<(Array.replicate l.length false).size:=by simp;omega
  simp [Array.getD];omega
 ·rw [getD_replicate_false] at h;cases h
 ·rw [getD_replicate_false] at h;cases h
 ·rw [getD_replicate_false] at h;cases h
 ·rw [getD_replicate_false] at h;cases h
end
end Go.Proofs.YtncnfncglacheaaGreatDoor.Mem
