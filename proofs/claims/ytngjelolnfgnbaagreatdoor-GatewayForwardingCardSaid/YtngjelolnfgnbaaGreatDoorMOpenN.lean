/- Part of a proof. -/
import Derived.Test.YtngjelolnfgnbaaGreatDoorMFrame
import Derived.Test.YtngjelolnfgnbaaGreatDoorMNWrite
import Derived.Deep.Slices
import Derived.Deep.Grids
set_option linter.all false
set_option maxRecDepth 100000
set_option maxHeartbeats 64000000
namespace Go.Proofs.YtngjelolnfgnbaaGreatDoor
open Go Go.ChangeShapes Go.WideShapes Go.ChangeAt Go.RowKit Mem
namespace gZ
theorem EY:Tryz.prog.cellsOf 3=1:=by kernel_rfl
theorem FE:Tryz.prog.cellsOf 115=1:=by kernel_rfl
theorem xk:Tryz.prog.cellsOf 117=4:=by kernel_rfl
theorem yT:Tryz.prog.cellsOf 98=3:=by kernel_rfl
theorem Bl:Tryz.prog.cellsOf 57=1:=by kernel_rfl
theorem BI:Tryz.prog.cellsOf 96=1:=by kernel_rfl
theorem zD:Tryz.prog.cellsOf 58=1:=by kernel_rfl
theorem BV:Tryz.prog.cellsOf 59=1:=by kernel_rfl
theorem DK:Tryz.prog.cellsOf 61=3:=by kernel_rfl
theorem add_plain (b o k:Nat):(⟨b,o,none⟩:Addr).add k=⟨b,o+k,none⟩:=by unfold Addr.add;split<;>simp_all
section
variable {H:Type} {enc:TypeId×Value→H} {W:World}
theorem sQ {α:Type} [Inhabited α] {K:Nat} (h0:0<K) (vQ:α→List OC) (hk:∀x,(vQ x).length=K) {t e:TypeId} (ht:Tryz.prog.underlying t=some (.slice e)) (hc:Tryz.prog.cellsOf e=K)
  {fuel:Nat} {v:Value} {x:DataW H×List MemPlace} (h:DataW.trod enc Tryz.prog W 0 (fun _=>true) true fuel t [v]=some x)
  (each:∀(n:Nat) (cs:List Value) (d:DataW H×List MemPlace),DataW.trod enc Tryz.prog W 0 (fun _=>true) true n e cs=some d→∃y:α,cs=(vQ y).map oV):∃l:List α,fq K vQ W v l:=by
 rcases Go.Deep.open_slice ht h with ⟨h1,_⟩ | ⟨a,len,cap,m,n,D,Pl,h1,_,hl,hm,hmm,_,hx⟩
 ·cases h1;exact ⟨[], .inl ⟨none,rfl,rfl⟩⟩
 ·cases h1;simp only [jX] at hmm;subst hmm;rw [hc] at hx;by_cases hcap:m=0
  ·subst hcap;obtain rfl:len=0:=by omega
   exact ⟨[], .inl ⟨some a,rfl,rfl⟩⟩
  ·obtain ⟨q,hq⟩:=Go.Deep.choose_lt (α:=α) (p:=fun i y=>∀j,j<K→W.cell? (a.add (i * K+j))=((vQ y)[j]?).map oV) (n:=m) (fun i hi=>by
    obtain ⟨cs',h1,h2⟩:=hx i hi
    obtain ⟨y,rfl⟩:=each _ _ _ h2
    obtain ⟨_,_,h3⟩:=World.cells?_some h1
    refine ⟨y,fun j hj=> ?_⟩
    rw [← Go.Deep.add_add,h3 j hj,sW])
   have hval:∀i,i<m * K→W.cell? (a.add i)=some ((((vQ (q (i / K)))[i % K]?).map oV).getD undef):=by
    intro i hi;have h1:=hq (i / K) ((Nat.div_lt_iff_lt_mul h0).2 hi) (i % K) (xR _ h0);rw [Nat.mul_comm,Nat.div_add_mod i K] at h1;rw [h1];have h2:i % K<(vQ (q (i / K))).length:=by rw [hk];exact xR _ h0
    rw [dR h2];rfl
   obtain ⟨b,o,rfl,hb,hcc⟩:=oM (n:=m * K) (Nat.mul_pos (by omega) h0) hval;refine ⟨(List.range len).map q, .inr ⟨b,o,m,by simp,by simpa using hl,fun i hi j hj=> ?_,hb⟩⟩;have hi':i<len:=by simpa using hi
   simp only [List.getElem_map,List.getElem_range] at hj ⊢;have h1:=hq i (by omega) j (by rw [hk] at hj;exact hj);rw [add_plain,← oD] at h1;exact h1
instance:Inhabited Cl:=⟨⟨0,0,0,0⟩⟩
instance:Inhabited Ce:=⟨⟨0,0,0⟩⟩
theorem Ad {n:Int} (h:(Lit.int .u64 n).wf=true):X (UInt64.ofNat n.toNat)=n:=by
 have hb:=bounds_u64 h;unfold X;rw [UInt64.toNat_ofNat'];omega
theorem uX {fuel:Nat} {v:Value} {x:DataW H×List MemPlace} (h:DataW.trod enc Tryz.prog W 0 (fun _=>true) true fuel 57 [v]=some x):∃l:List Cl,fq 4 aS W v l:=by
 refine sQ (by decide) aS (fun _=>rfl) Tryz.underlying57 xk h fun n cs d hd=> ?_;obtain ⟨xs,m,_,_,hl,hn,hel⟩:=DataW.trod_array Tryz.underlying117 hd;rw [xk] at hl
 have g:∀i,i<4→∃z:Int,(cs.drop i).take 1=[.int .u64 z]∧(Lit.int .u64 z).wf=true:=by
  intro i hi;have h1:=hel i hi;rw [FE,Cn,dR (by omega)] at h1;obtain ⟨z,h2,_,h3⟩:=Ck Tryz.underlying115 h1;exact ⟨z,h2,h3⟩
 match cs,hl with
 | [c0,c1,c2,c3],_=>
  obtain ⟨z0,e0,w0⟩:=g 0 (by omega);obtain ⟨z1,e1,w1⟩:=g 1 (by omega);obtain ⟨z2,e2,w2⟩:=g 2 (by omega);obtain ⟨z3,e3,w3⟩:=g 3 (by omega);cases e0;cases e1;cases e2;cases e3;refine ⟨⟨UInt64.ofNat z0.toNat,UInt64.ofNat z1.toNat,UInt64.ofNat z2.toNat,UInt64.ofNat z3.toNat⟩,?_⟩;show _=[Value.int .u64 (X _),Value.int .u64 (X _),Value.int .u64 (X _),Value.int .u64 (X _)];rw [Ad w0,Ad w1,Ad w2,Ad w3]
theorem yx {fuel:Nat} {v:Value} {x:DataW H×List MemPlace} (h:DataW.trod enc Tryz.prog W 0 (fun _=>true) true fuel 96 [v]=some x):∃l:List Ce,fq 3 dH W v l:=by
 refine sQ (by decide) dH (fun _=>rfl) Tryz.underlying96 yT h fun n cs d hd=> ?_;obtain ⟨xs,m,_,_,hl,hn,hel⟩:=DataW.trod_struct Tryz.underlying98 hd;rw [yT] at hl;have GA:xs.length=3:=hn;have g0:DataW.trod enc Tryz.prog W 0 (fun _=>true) true m 3 ((cs.drop 0).take (Tryz.prog.cellsOf 3))=xs[0]?:=hel 0 _ rfl;have g1:DataW.trod enc Tryz.prog W 0 (fun _=>true) true m 3 ((cs.drop 1).take (Tryz.prog.cellsOf 3))=xs[1]?:=hel 1 _ rfl;have g2:DataW.trod enc Tryz.prog W 0 (fun _=>true) true m 5 ((cs.drop 2).take (Tryz.prog.cellsOf 5))=xs[2]?:=hel 2 _ rfl;rw [dR (by omega)] at g0 g1 g2
 match cs,hl with
 | [c0,c1,c2],_=>
  simp only [EY,cells5,List.drop,List.take] at g0 g1 g2;obtain ⟨z0,e0,_,_⟩:=Ck Tryz.underlying3 g0;obtain ⟨z1,e1,_,_⟩:=Ck Tryz.underlying3 g1;obtain ⟨z2,e2,_,w2⟩:=Ck Tryz.underlying5 g2;cases e0;cases e1;cases e2;have hb:=bounds_u8 w2;refine ⟨⟨z0,z1,UInt8.ofNat z2.toNat⟩,?_⟩;show _=[Value.int .i64 z0,Value.int .i64 z1,Value.int .u8 ((UInt8.ofNat z2.toNat).toNat:Int)];congr 3;simp;omega
theorem zN {fuel:Nat} {v:Value} {x:DataW H×List MemPlace} (h:DataW.trod enc Tryz.prog W 0 (fun _=>true) true fuel 58 [v]=some x):∃l:List (List Ce),rP W v l:=by
 rcases Go.Deep.open_slice1 Tryz.underlying58 BI h with ⟨h1,_⟩ | ⟨a,len,cap,m,n,V,D,Pl,h1,_,hl,hm,hmm,_,hx⟩
 ·cases h1;exact ⟨[], .inl ⟨none,rfl,rfl⟩⟩
 ·cases h1;simp only [jX] at hmm;subst hmm;by_cases hcap:m=0
  ·subst hcap;obtain rfl:len=0:=by omega
   exact ⟨[], .inl ⟨some a,rfl,rfl⟩⟩
  ·obtain ⟨q,hq⟩:=Go.Deep.choose_lt (α:=List Ce) (p:=fun i y=>fq 3 dH W (V i) y) (n:=m) (fun i hi=>yx (hx i hi).2);obtain ⟨b,o,rfl,hb,hcc⟩:=oM (n:=m) (by omega) (fun i hi=>(hx i hi).1);refine ⟨(List.range len).map q, .inr ⟨b,o,m,by simp,by simpa using hl,fun i hi=> ?_,hb⟩⟩;have hi':i<len:=by simpa using hi
   simp only [List.getElem_map,List.getElem_range];exact ⟨V i,hcc i (by omega),hq i (by omega)⟩
theorem y7 {fuel:Nat} {v:Value} {x:DataW H×List MemPlace} (h:DataW.trod enc Tryz.prog W 0 (fun _=>true) true fuel 59 [v]=some x):∃l:List Bool,Rd Value.bool W v l:=by
 rcases Go.Deep.open_bools Tryz.underlying59 Tryz.underlying4 FJ h with ⟨h1,_⟩ | ⟨a,len,cap,B,h1,_,hl,hm,_,hx⟩
 ·cases h1;exact ⟨[], .inl ⟨none,rfl,rfl⟩⟩
 ·cases h1;by_cases hcap:cap=0
  ·subst hcap;obtain rfl:len=0:=by omega
   exact ⟨[], .inl ⟨some a,rfl,rfl⟩⟩
  ·obtain ⟨b,o,rfl,hb,hcc⟩:=oM (n:=cap) (by omega) hx;refine ⟨(List.range len).map B, .inr ⟨b,o,cap,by simp,by simpa using hl,fun i hi=> ?_,hb⟩⟩;have hi':i<len:=by simpa using hi
   rw [hcc i (by omega),dR hi];simp
theorem zU {base:Nat} {v:Value} {d:DataW H} {p:List MemPlace} (hval:Value.okWide Tryz.prog W .any base 61 v) (h:DataW.Trod enc Tryz.prog W 0 (fun _=>true) true 61 v d p):
  ∃(N:NZ) (pc pr pe:Option Addr) (kc kr ke:Nat),v= .agg #[.slice pc N.cls.length kc, .slice pr N.rows.length kr, .slice pe N.ends.length ke]∧dB W v N:=by
 unfold Value.okWide at hval;rw [Tryz.underlying61] at hval;obtain ⟨cs,rfl,_,_⟩:=hval;obtain ⟨fuel,hf⟩:=h;obtain ⟨xs,m,_,_,hl,hn,hel⟩:=DataW.trod_struct Tryz.underlying61 hf;obtain ⟨cs⟩:=cs;have hl3:cs.length=3:=by rw [← DK];exact hl
 have GA:xs.length=3:=hn;have g0:DataW.trod enc Tryz.prog W 0 (fun _=>true) true m 57 ((cs.drop 0).take (Tryz.prog.cellsOf 57))=xs[0]?:=hel 0 _ rfl;have g1:DataW.trod enc Tryz.prog W 0 (fun _=>true) true m 58 ((cs.drop 1).take (Tryz.prog.cellsOf 58))=xs[1]?:=hel 1 _ rfl;have g2:DataW.trod enc Tryz.prog W 0 (fun _=>true) true m 59 ((cs.drop 2).take (Tryz.prog.cellsOf 59))=xs[2]?:=hel 2 _ rfl;rw [dR (by omega)] at g0 g1 g2
 match cs,hl3 with
 | [c0,c1,c2],_=>
  simp only [Bl,zD,BV,List.drop,List.take] at g0 g1 g2;obtain ⟨lc,hc⟩:=uX g0;obtain ⟨lr,hr⟩:=zN g1;obtain ⟨le,he⟩:=y7 g2;obtain ⟨pc,kc,rfl⟩:=hc.slice;obtain ⟨pr,kr,rfl⟩:=hr.slice;obtain ⟨pe,ke,rfl⟩:=he.slice;exact ⟨⟨lc,lr,le⟩,pc,pr,pe,kc,kr,ke,rfl,_,_,_,rfl,hc,hr,he⟩
end
end gZ
end Go.Proofs.YtngjelolnfgnbaaGreatDoor
