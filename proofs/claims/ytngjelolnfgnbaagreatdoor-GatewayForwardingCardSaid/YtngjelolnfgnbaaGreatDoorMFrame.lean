/- Part of a proof. -/
import Derived.Test.YtngjelolnfgnbaaGreatDoorCards
import Derived.Test.YtngjelolnfgnbaaGreatDoorTie
import Derived.ProofKit
import Derived.OpenShut
import Derived.Deep.DeepHandedRow
import Derived.Lib.LaidTab
import Derived.Stop.LaidErr
import Derived.Deep.SlicePairs
import Derived.ChangeSlices
import Derived.SizedLaws
import Derived.Test.YtngjelolnfgnbaaGreatDoorMOwn
set_option linter.all false
set_option maxRecDepth 100000
set_option maxHeartbeats 64000000
namespace Go.Proofs.YtngjelolnfgnbaaGreatDoor
open Go.ChangeShapes Go.WideShapes Go.ChangeAt Go.RowKit Mem
namespace gZ
section
variable {H:Type} {enc:TypeId×Value→H} {P:Program}
theorem j4 (hl:laidOutB P=true) {W W':World} (hb:Below W.heap.size W W'):
  ∀(ts:List TypeId) (vs:List Value) (ds:List (DataW H)) (ps:List MemPlace),(∀t∈ts,P.readableRec t=true∧t<P.types.size)→DataW.TrodAll enc P W 0 (fun _=>true) true ts vs ds ps→
   (∀x∈ps,x.block<W.heap.size)→DataW.TrodAll enc P W' 0 (fun b=>decide (b<W.heap.size)) true ts vs ds ps
 | [],[],[],_,_,h,_=>h
 | t::ts,v::vs,d::ds,ps,ht,h,hlt=>by
  obtain ⟨p,q,h1,h2,rfl⟩:=h;exact ⟨p,q,Below.trod hl (ht t (by simp)).1 (ht t (by simp)).2 h1 hb (fun x hx=>hlt x (by simp [hx])),j4 hl hb ts vs ds q (fun x hx=>ht x (by simp [hx])) h2 (fun x hx=>hlt x (by simp [hx])),rfl⟩
 | [],[],_::_,_,_,h,_=>h.elim
 | [],_::_,_,_,_,h,_=>h.elim
 | _::_,[],_,_,_,h,_=>h.elim
 | _::_,_::_,[],_,_,h,_=>h.elim
theorem oK {W:World} {b:Nat} {sp:Nat→Bool} {hd:Bool}:∀(ts:List TypeId) (vs:List Value) (ds:List (DataW H)) (ps:List MemPlace),DataW.TrodAll enc P W b sp hd ts vs ds ps→ds.length=ts.length
 | [],[],[],_,_=>rfl
 | _::ts,_::vs,_::ds,_,h=>by obtain ⟨p,q,_,h2,_⟩:=h;simp [oK ts vs ds q h2]
 | [],[],_::_,_,h=>h.elim
 | [],_::_,_,_,h=>h.elim
 | _::_,[],_,_,h=>h.elim
 | _::_,_::_,[],_,h=>h.elim
theorem Cj {s:ChangeSpec} {f:Func} {W W':World} {args:Array Value} {ds gs:List (DataW H)} {before:List MemPlace} (hl:laidOutB P=true) (hts:∀t∈f.params.toList,P.readableRec t=true∧t<P.types.size)
  (hrt:f.resultTypes= #[4]) (h4:P.underlying 4=some .bool) (hv:s.vars=[]) (hs:∀ds:List (DataW H),ds.length=f.params.size→s.fn H ds={results:=[.lit (.bool true)],args:=ds})
  (hW:DataW.Whole enc P f.params.toList s.vars false W args.toList ds gs before) (hb:Below W.heap.size W W'):s.post enc P f false true false false W args (.bool true) W':=by
 have hlt:∀p∈before,p.block<W.heap.size:=fun p hp=>hW.lt p hp;have hW':=hW;obtain ⟨p,q,hA,hV,rfl,_,_⟩:=hW';rw [hv] at hV;obtain ⟨rfl,rfl⟩:=trodVars_none hV;rw [AR] at hW hlt;have hn:=oK _ _ _ _ hA;have hsp:s.fn H (ds++[])={results:=[.lit (.bool true)],args:=ds}:=by rw [AR];exact hs ds (by simpa using hn)
 refine ⟨ds,[],p,[],p,[],hW,?_,?_,?_,hb.frame _,fun h=>by cases h⟩
 ·rw [hsp,hrt];exact trodAll_cons_mk (shut_bool h4 _) trodAll_mk0
 ·rw [hsp];exact j4 hl hb _ _ _ _ hts hA hlt
 ·rw [hsp,hv];exact rfl
end
theorem own:ownKnob Tryz.prog.godebug=none:=by kernel_rfl
theorem laidOut:laidOutB Tryz.prog=true:=by kernel_rfl
abbrev laid:List (String×DataW Unit):=[("math/bits.deBruijn64tab",Rows.laid_math_bits_deBruijn64tab)]
section
variable {H:Type} {enc:TypeId×Value→H} {P:Program} {W:World}
theorem Bv {t e:TypeId} {n fuel base:Nat} {sp:Nat→Bool} {hd:Bool} {cs:List Value} {x:DataW H×List MemPlace} (ht:P.underlying t=some (.array n e)) (he:P.underlying e=some (.int .u8)) (hce:P.cellsOf e=1) (hct:P.cellsOf t=n)
  (h:DataW.trod enc P W base sp hd fuel t cs=some x):∃l:List UInt8,l.length=n∧cs=l.map Mem.bg:=by
 obtain ⟨xs,m,_,_,hl,hn,hel⟩:=DataW.trod_array ht h;rw [hct] at hl
 have hk:∀i (hi:i<cs.length),∃u:UInt8,cs[i]=Mem.bg u:=by
  intro i hi;have h1:=hel i (by omega);rw [hce,Cn,dR (by omega)] at h1;obtain ⟨k,e1,_,hw⟩:=Ck he h1;have hb:=bounds_u8 hw
  have e2:cs[i]= .int .u8 k:=by
   have:=congrArg (·[0]?) e1;simp [nE,dR hi] at this;exact this
  refine ⟨UInt8.ofNat k.toNat,?_⟩;rw [e2,Mem.bg];congr 1;simp;omega
 refine ⟨cs.map fun v=>match v with | .int _ k=>UInt8.ofNat k.toNat | _=>0,by simpa using hl,?_⟩;apply List.ext_getElem (by simp);intro i h1 h2;obtain ⟨u,hu⟩:=hk i h1;simp only [List.getElem_map,hu,Mem.bg];simp
end
theorem FJ:Tryz.prog.cellsOf 4=1:=by kernel_rfl
theorem cells5:Tryz.prog.cellsOf 5=1:=by kernel_rfl
theorem oM {W:World} {a:Addr} {n:Nat} {V:Nat→Value} (h0:0<n) (h:∀i,i<n→W.cell? (a.add i)=some (V i)):∃b o,a=⟨b,o,none⟩∧b<W.heap.size∧∀i,i<n→W.cell? ⟨b,o+i,none⟩=some (V i):=by
 obtain ⟨b,o,spot⟩:=a;have hh:=h 0 h0;have hs:spot=none:=by simpa [Addr.add] using World.cell?_spot hh
 subst hs;have hb:=World.block_lt_of_cell? W _ hh;have e:∀i,((⟨b,o,none⟩:Addr).add i)=⟨b,o+i,none⟩:=fun i=>by unfold Addr.add;split<;>simp_all
 rw [e] at hb;exact ⟨b,o,rfl,hb,fun i hi=>by rw [← e];exact h i hi⟩
theorem yC {H:Type} {enc:TypeId×Value→H} {W:World} {fuel:Nat} {v:Value} {x:DataW H×List MemPlace} (h:DataW.trod enc Tryz.prog W 0 (fun _=>true) true fuel 31 [v]=some x):∃l:List UInt8,Rd bg W v l:=by
 rcases open_ints Tryz.underlying31 Tryz.underlying5 cells5 h with ⟨h0,_⟩ | ⟨a,len,cap,zs,h0,_,hl,hm,hz,_,hc,hwf⟩
 ·cases h0;exact ⟨[], .inl ⟨none,rfl,rfl⟩⟩
 ·cases h0;simp only [jX] at hz;by_cases hcap:cap=0
  ·subst hcap;obtain rfl:len=0:=by omega
   exact ⟨[], .inl ⟨some a,rfl,rfl⟩⟩
  ·obtain ⟨b,o,rfl,hb,hcc⟩:=oM (n:=zs.length) (by omega) hc;have hlen:((zs.take len).map fun z=>UInt8.ofNat z.toNat).length=len:=by simp;omega
   refine ⟨(zs.take len).map fun z=>UInt8.ofNat z.toNat, .inr ⟨b,o,cap,by rw [hlen],by rw [hlen];exact hl,?_,hb⟩⟩;intro i hi;rw [hlen] at hi;rw [hcc i (by omega),sW,nA hi,dR (by omega)];have hw:=bounds_u8 (hwf zs[i] (uV (by omega)));simp only [jb,ah];rw [bg];congr 1;simp [show i<zs.length by omega];omega
theorem vV {H:Type} {enc:TypeId×Value→H} {W:World} {base:Nat} {v:Value} {d:DataW H} {p:List MemPlace} (hval:Value.okWide Tryz.prog W .any base 31 v) (h:DataW.Trod enc Tryz.prog W 0 (fun _=>true) true 31 v d p):
  ∃l:List UInt8,Rd bg W v l∧(l=[]∨∃es sp,d= .slice es sp∧es.length=l.length):=by
 obtain ⟨a0,len,cap,rfl⟩:=okWide_slice Tryz.underlying31 hval;obtain ⟨fuel,hf⟩:=h;obtain ⟨l,hl⟩:=yC hf;refine ⟨l,hl,?_⟩;rcases open_ints Tryz.underlying31 Tryz.underlying5 cells5 hf with ⟨hcs,hx⟩ | ⟨a,len',cap',zs,hcs,_,hle,hm,hz,hx,_,_⟩
 ·simp [Value.cells] at hcs;obtain ⟨rfl,rfl,rfl⟩:=hcs;left;rcases hl with ⟨_,_,h0⟩ | ⟨b,o,c,h0,_⟩
  ·exact h0
  ·simp at h0
 ·simp [Value.cells] at hcs;obtain ⟨rfl,rfl,rfl⟩:=hcs;simp only [ay] at hx;simp only [jX] at hz;right;refine ⟨_,_,hx.1,?_⟩
  have e:len=l.length:=by
   obtain ⟨q,c,h1⟩:=hl.slice;injection h1
  simp [lits,hz];omega
theorem iY:Tryz.prog.bytesOf 5=1:=by kernel_rfl
def D9:List UInt8:=[0,1,56,2,57,49,28,3,61,58,42,50,38,29,17,4,62,47,59,36,45,43,51,22,53,39,33,30,24,18,12,5,63,55,48,27,60,41,37,16,46,35,44,21,52,32,23,11,54,26,40,15,34,20,31,10,25,14,19,9,13,8,7,6]
def lay (cs:Array Value):Obj→Obj
 | .cells _ t frozen=> .cells cs t frozen
 | o=>o
noncomputable def mJ (os:Os):World:=
 {World.holding Tryz.prog os ⟨#[],#[],[]⟩ with heap:=(World.holding Tryz.prog os ⟨#[],#[],[]⟩).heap.modify 1 (lay (D9.map Mem.bg).toArray)}
theorem BZ (os:Os) (args:Array Value):laidMet Tryz.prog laid ((mJ os).forCall (fun _ _=>0) ⟨#[],args,[]⟩).memory:=
 laidMet_of_run' 8 (by kernel_rfl) (by kernel_rfl)
end gZ
end Go.Proofs.YtngjelolnfgnbaaGreatDoor
