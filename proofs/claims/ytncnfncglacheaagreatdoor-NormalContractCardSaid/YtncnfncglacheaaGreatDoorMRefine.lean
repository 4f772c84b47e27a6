/- Part of a proof. -/
import Derived.Test.YtncnfncglacheaaGreatDoorMTbM
set_option linter.all false
set_option maxRecDepth 100000
set_option maxHeartbeats 64000000
namespace Go.Proofs.YtncnfncglacheaaGreatDoor
section
open Go Go.RowKit Mem
theorem mkKey (w:World) (c:Nat) (hc:c≤1000000):(Instr.makeSlice 22 (.int .i64 0) (.int .i64 (c:Int))).run Tryz.prog w= .ok (.slice (some ⟨w.heap.size,0,none⟩) 0 c) (w.alloc (.cells ((List.replicate c (0:UInt8)).map aV).toArray 5)):=by
 obtain ⟨i,z,hi,hz,hs,hb,_⟩:=yH.hi
 have hzz:z= .int .u8 0:=by
  have h:(Tryz.prog.info? 5).bind (·.zero)=some (.int .u8 0):=by kernel_rfl
  rw [hi] at h;exact eG (hz.symm.trans h)
 have h:=run_make w 22 5 i z Tryz.underlying22 hi hz .i64 .i64 0 (c:Int) (by omega) (by omega) (by rw [hb];omega) (by omega);rw [PI,hs,hzz,PK] at h;rw [h];show Result.ok _ (w.alloc (.cells (madeCells #[.int .u8 0] c) _))=_
 have e:madeCells #[.int .u8 0] c=((List.replicate c (0:UInt8)).map aV).toArray:=by
  apply WE.1;rw [toList_madeCells_one,qcO];rfl
 rw [e];rfl
theorem I1 (w:World) (c:Nat) (hc:c≤1000000):Mem.Own aV (w.alloc (.cells ((List.replicate c (0:UInt8)).map aV).toArray 5)) w.heap.size 5 (.slice (some ⟨w.heap.size,0,none⟩) 0 c) []:=
 ⟨by simp, .inr ⟨w.heap.size,c,_,rfl,af _,World.alloc_heap_new _ _,by simp,by unfold maxLen;omega,by simp,by simp⟩⟩
theorem Yx:(instBEqOfDecidableEq:BEq (List Nat))=(inferInstance:BEq (List Nat)):=by
 have h:∀a b:List Nat,(@BEq.beq _ instBEqOfDecidableEq a b)=(a==b):=fun a b=>by
  rw [Dr];simp
 show BEq.mk _=_
 have e:(fun a b:List Nat=>decide (a=b))=fun a b=>(a==b):=by
  funext a b;exact h a b
 rw [e]
theorem F9 (l:List (List Nat)) (a:List Nat): @List.idxOf _ instBEqOfDecidableEq a l=l.idxOf a:=by rw [Yx]
theorem l9 {α:Type} {f:α→Value} {w:World} {b base:Nat} {t:TypeId} {l:List α} (h:Row f w b t l) (hb:base≤b) (hm:l.length≤maxLen):Mem.Own f w base t (.slice (some ⟨b,0,none⟩) l.length l.length) l:=
 ⟨by simp, .inr ⟨b,l.length,_,rfl,hb,h,af _,hm,by simp,by rw [PK,qcz,pM (by simp)]⟩⟩
structure kD (w wr:World) (tb:Nat) (T:TB) (vn va:OC):Prop where
 tab:qG wr tb T vn va
 fB:Below tb w wr
 sz:tb+1≤wr.heap.size
section
variable {w wr w':World} {tb:Nat} {T:TB} {vn va:OC}
theorem kD.grown (h:kD w wr tb T vn va) {row:Option Nat} (hg:wr.grownBy w' row) (hr:∀b,row=some b→tb<b):kD w w' tb T vn va:=
 ⟨⟨h.tab.row.grown hg (fun e=>by have:=hr _ e.symm;omega),h.tab.cl⟩,h.fB.grown hg (by have:=h.sz;omega) (fun k e=>by have:=hr _ e;omega),aJ h.sz hg.size⟩
theorem kD.alloc (h:kD w wr tb T vn va) (o:Obj):kD w (wr.alloc o) tb T vn va:=h.grown (Us wr o none) (fun _ e=>by cases e)
theorem kD.set (h:kD w wr tb T vn va) (b i:Nat) (v:Value) (hb:tb<b):kD w (wr.setCell ⟨b,i,none⟩ v) tb T vn va:=h.grown (aB wr b i v) (fun _ e=>by injection e with e;omega)
theorem kD.under (h:kD w wr tb T vn va) {B:Nat} (hb:Below B wr w') (hB:tb<B):kD w w' tb T vn va:=⟨⟨h.tab.row.below hb hB,h.tab.cl⟩,h.fB.trans (hb.mono (by omega)),aJ h.sz hb.size⟩
theorem kD.below (h:kD w wr tb T vn va) (hb:Below wr.heap.size wr w'):kD w w' tb T vn va:=h.grown (Mem.aY hb none) (fun _ e=>by cases e)
end
theorem abQ (w:World) (C:Array Value) (T:TB) (hC:kz w C T) (hT:T.Ok) (vl:Value) (l:List Nat) (hl:Rd nV w vl l) (hL:mo T.nx.length l):
  Calls Tryz.prog 227 #[.agg C,vl] w fun e w'=>∃p1 c1 p2 c2,e= .returned (.tuple #[.slice p1 (T.refine l).1.length c1, .slice p2 (T.refine l).2.length c2])∧Mem.Own nV w' w.heap.size 3 (.slice p1 (T.refine l).1.length c1) (T.refine l).1∧Mem.Own nV w' w.heap.size 3 (.slice p2 (T.refine l).2.length c2) (T.refine l).2∧Below w.heap.size w w':=by
 obtain ⟨⟨vn,jC⟩,⟨va,hva⟩,kQ,h1,h2,h3⟩:=hC;obtain ⟨pn,kn,rfl⟩:=h1.slice;obtain ⟨pa,ka,rfl⟩:=h2.slice;obtain ⟨pl,kl,rfl⟩:=hl.slice;have HN:=Lib.hid h1;have HA:=Lib.hid h2;have HLR:=Lib.hid hl;have HT:=Lib.hid hT;have HLO:=Lib.hid hL;obtain ⟨n,Hn⟩:∃n,Hid (T.nx.length=n):=⟨_,Lib.hid rfl⟩
 have wK:T.ac.length=n:=by rw [← Hn.out];exact hT.ac
 have g1:1≤n:=by rw [← Hn.out];exact hT.n1
 have g2:n≤65535:=by rw [← Hn.out];exact hT.nn
 have hln:=hL.len;obtain ⟨L,Gt⟩:∃n,Hid (l.length=n):=⟨_,Lib.hid rfl⟩
 rw [Hn.out] at HN kQ hln;rw [wK] at HA kQ;rw [Gt.out] at HLR hln ⊢;have Ip:Hid (∀x∈l,x<n):=Lib.hid (by rw [← Hn.out];exact hL.lt);have HR:Hid (T.refine l=uX T.nx n l (L+1 - 0) (q8 T.ac n l) 0):=Lib.hid (by rw [← Hn.out,← Gt.out];rfl);have HAN:=Lib.hid wK;clear h1 h2 hT hl hL wK;have hR0:kD w (w.alloc (.cells C 166)) w.heap.size T ⟨.slice pn n kn,jC⟩ ⟨.slice pa n ka,hva⟩:=⟨⟨Row.new _ _ (by rw [kQ]),h3⟩,(ak _ _).alloc (af _) _,by simp⟩
 have hS0:(w.alloc (.cells C 166)).heap.size=w.heap.size+1:=bO _ _;clear kQ;go_enter Tryz.func227,Tryz.ntmps227;go_upto_region 1 with (fail);obtain ⟨tb,dx⟩:∃tb,Hid (w.heap.size=tb):=⟨_,Lib.hid rfl⟩
 generalize (w.alloc (.cells C 166))=W at hR0 hS0 ⊢;rw [dx.out] at hR0 hS0 ⊢;have qZ:=hR0.tab.nx;obtain ⟨MB,lg⟩:∃C,Hid (C=((List.replicate n 0).map nV).toArray):=⟨_,Lib.hid rfl⟩
 have hmk:∀w:World,(Instr.makeSlice 92 (.int .i64 (n:Int)) (.int .i64 (n:Int))).run Tryz.prog w= .ok (.slice (some ⟨w.heap.size,0,none⟩) n n) (w.alloc (.cells MB 3)):=fun w=>by rw [lg.out];exact uh w n (by omega)
 have HMK:=Lib.hid hmk;have hBl:Row nV (W.alloc (.cells MB 3)) W.heap.size 3 (List.replicate n 0):=by rw [lg.out];exact Row.new _ _ rfl
 have iw:=hR0.alloc (.cells MB 3);rw [hS0] at hBl;go_upto_region 2 with (fail);generalize (W.alloc (.cells MB 3))=W1 at hBl iw ⊢;clear hR0 hS0 qZ hmk;clear W;go_wp2_with fail
 go_loopw [26] (fun Si wr=>∃k:Nat,k≤L∧Si= .int .i64 k∧Row nV wr (tb+1) 3 ((l.take k).foldl (nT T.ac) (List.replicate n 0))∧kD w wr tb T ⟨.slice pn n kn,jC⟩ ⟨.slice pa n ka,hva⟩) (fun Si _=>L - (intOf Si).toNat)
 case atStart=>exact ⟨0,by omega,rfl,hBl,iw⟩
 case round=>
  clear hBl iw;obtain ⟨k,hk,rfl,hBl,mF⟩:=hrel;by_cases hlt:k<L
  ·have hq:(k:Int)<(L:Int):=by omega
   have hkl:k<l.length:=by rw [Gt.out];exact hlt
   obtain ⟨lb,lo,rfl,hcl⟩:=iF HLR.out k hlt;have cl:=hcl wr (by rw [dx.out];exact mF.fB);have hs:l.getD k 0<n:=Ip.out _ (aK _ _ _ hkl)
   have HST:Hid ((l.take (k+1)).foldl (nT T.ac) (List.replicate n 0)=nT T.ac ((l.take k).foldl (nT T.ac) (List.replicate n 0)) (l.getD k 0)):=Lib.hid (by
    rw [dz _ _ _ _ hkl,dJ,bK hkl];rfl)
   have hbl:=(yS T.ac n l k (by omega)).1;generalize l.getD k 0=s at *;generalize (l.take k).foldl (nT T.ac) (List.replicate n 0)=bl at *;obtain ⟨ab,ao,rfl,hca⟩:=tZ HA.out s hs;have ca:=hca wr (by rw [dx.out];exact mF.fB);have LG:=mF.tab.ac;have hsi:(s:Int)<(n:Int):=by omega
   clear hcl hca;cases hac:T.ac.getD s false with
   | false=>
    rw [hac] at ca;have HB1:Hid (bl=(l.take (k+1)).foldl (nT T.ac) (List.replicate n 0)):=Lib.hid (by rw [HST.out,nT,hac];rfl);go_wp2_with fail
    go_roundw
    case rel=>exact ⟨k+1,by omega,by go_num,by rw [← HB1.out];exact hBl,mF⟩
    case measure=>simp [intOf];omega
   | true=>
    rw [hac] at ca;have HB1:Hid (bl.set s 1=(l.take (k+1)).foldl (nT T.ac) (List.replicate n 0)):=Lib.hid (by rw [HST.out,nT,hac];rfl);have co:=eU hBl s (by rw [hbl];exact hs);have fo:=hBl.frozen s;have afX:=hBl.set s 1;have Zi:=mF.set (tb+1) s (nV 1) (by omega);clear hBl mF;go_wp2_with fail
    go_roundw
    case rel=>exact ⟨k+1,by omega,by go_num,by rw [← HB1.out];exact afX,Zi⟩
    case measure=>simp [intOf];omega
  ·obtain rfl:k=L:=by omega
   rw [pM (by rw [Gt.out];exact af _)] at hBl
   have hb0:∀x∈q8 T.ac n l,x<65536:=by
    have h:=(yS T.ac n l l.length (af _)).2;rw [Qp] at h;intro x hx;have:=h x hx;omega
   have hb1:(q8 T.ac n l).length=n:=by
    have h:=(yS T.ac n l l.length (af _)).1;rw [Qp] at h;exact h
   have hmm:= @run_makeMap Tryz.prog;replace hBl:Row nV wr (tb+1) 3 (q8 T.ac n l):=hBl;clear hk hlt;go_wp2_with fail
   go_loopw [6,9] (fun s6 s9 wr=>∃(bb c:Nat) (bl:List Nat),s6= .slice (some ⟨bb,0,none⟩) n n∧s9= .int .i64 c∧Row nV wr bb 3 bl∧tb<bb∧bl.length=n∧Hid (∀x∈bl,x<65536)∧c≤k∧Hid (T.refine l=uX T.nx n l (k+1 - c) bl c)∧Hid (∀i,i<c→∃s∈l,bl.getD s 0=i)∧kD w wr tb T ⟨.slice pn n kn,jC⟩ ⟨.slice pa n ka,hva⟩) (fun _ s9 _=>k+1 - (intOf s9).toNat)
   case atStart=>exact ⟨tb+1,0,_,rfl,rfl,hBl,by omega,hb1,Lib.hid hb0,by omega,HR,Lib.hid (fun i hi=>by omega),mF⟩
   case round=>
    clear hBl hb0 hb1 HR mF;obtain ⟨bb,c,bl,rfl,rfl,hBl,hbb,hbn,OY,hc,HR,HIT,mF⟩:=hrel;have HBN:=Lib.hid hbn;have hbl:=hBl.lt;have hmp:fA Ov zW Tryz.prog 9 3 (wr.alloc (.map #[] 0)) wr.heap.size []:=fA.made wr;have aa9:=hBl.alloc (.map #[] 0);have abd:=mF.alloc (.map #[] 0);have hS1:(wr.alloc (.map #[] 0)).heap.size=wr.heap.size+1:=bO _ _;go_upto_region 10 with (fail);have htm:=mF.sz;generalize hmb:wr.heap.size=mb at hmp hS1 hbl htm ⊢;generalize (wr.alloc (.map #[] 0))=W2 at hmp aa9 abd hS1 ⊢;clear hBl mF hmb;have hmk:=HMK.out;have Bc:Row nV (W2.alloc (.cells MB 3)) W2.heap.size 3 (GX n).bU:=by rw [lg.out];exact Row.new _ _ rfl
    have YQ:=hmp.alloc (.cells MB 3);have ZX:=aa9.alloc (.cells MB 3);have aar:=abd.alloc (.cells MB 3);have dY:mb+2≤(W2.alloc (.cells MB 3)).heap.size:=by rw [bO];omega
    rw [hS1] at Bc;go_upto_region 11 with (fail);clear hmk;generalize (W2.alloc (.cells MB 3))=W3 at Bc YQ ZX aar dY ⊢;clear hmp aa9 abd hS1;clear W2;have hO3:=Own.nil (f:=nV) W3 (mb+2) 3;have KS:(l.take 0).foldl (wX T.nx bl) (GX n)=GX n:=rfl;go_wp2_with fail
    go_loopw [12,45] (fun s12 s45 wr=>∃(j:Nat) (st:RS) (pr:Option Addr) (kr:Nat),j≤k∧s45= .int .i64 j∧Hid ((l.take j).foldl (wX T.nx bl) (GX n)=st)∧s12= .slice pr st.rs.length kr∧Mem.Own nV wr (mb+2) 3 (.slice pr st.rs.length kr) st.rs∧Row nV wr (mb+1) 3 st.bU∧fA Ov zW Tryz.prog 9 3 wr mb st.ks∧Row nV wr bb 3 bl∧kD w wr tb T ⟨.slice pn n kn,jC⟩ ⟨.slice pa n ka,hva⟩∧mb+2≤wr.heap.size) (fun _ s45 _=>k - (intOf s45).toNat)
    case atStart=>exact ⟨0,GX n,none,0,by omega,rfl,Lib.hid rfl,rfl,hO3,Bc,YQ,ZX,aar,dY⟩
    case round=>
     clear hO3 Bc YQ ZX aar dY KS hbn;obtain ⟨j,st,pr,kr,hj,rfl,HST,rfl,hO,Bc,K5,hBl,mF,hS⟩:=hrel;have hok:=xh (nx:=T.nx) (bl:=bl) (n:=n) (l:=l) (by rw [← Hn.out];exact HLO.out) j (by rw [Gt.out];exact hj);rw [HST.out] at hok;have jq:=Lib.hid hok;clear hok;by_cases hlt:j<k
     ·have hq:(j:Int)<(k:Int):=by omega
      have hjl:j<l.length:=by rw [Gt.out];exact hlt
      obtain ⟨lb,lo,rfl,hcl⟩:=iF HLR.out j hlt;have cl:=hcl wr (by rw [dx.out];exact mF.fB);have hs:l.getD j 0<n:=Ip.out _ (aK _ _ _ hjl)
      have HSN:Hid (l.getD j 0∉l.take j):=Lib.hid (fun hm=>by
       obtain ⟨i,hi,e⟩:=X0.1 hm
       rw [dJ,bK hjl] at e
       have:=(List.getElem_inj (xs:=l) HLO.out.nd).1 e
       omega)
      have adT:Hid ((l.take (j+1)).foldl (wX T.nx bl) (GX n)=wX T.nx bl st (l.getD j 0)):=Lib.hid (by
       rw [dz _ _ _ _ hjl,HST.out,dJ,bK hjl];rfl)
      generalize l.getD j 0=s at *;have hsi:(s:Int)<(n:Int):=by omega
      have hW1:Below w.heap.size w wr:=by rw [dx.out];exact mF.fB
      obtain ⟨nb,no,rq,rd,rfl,hnn,hnb,hcr,hrow⟩:=sK HN.out s (by rw [Hn.out];exact hs);have cr:wr.cell? ⟨nb,no+s,none⟩=some (.slice rq (T.nx.getD s []).length rd):=(hW1.cell (p:=⟨nb,no+s,none⟩) hnb).trans hcr;have Xi:Hid (∀X,Below w.heap.size w X→X.cell? ⟨nb,no+s,none⟩=some (.slice rq (T.nx.getD s []).length rd)):=Lib.hid fun X hX=>(hX.cell (p:=⟨nb,no+s,none⟩) hnb).trans hcr;have Kn:=Lib.hid hrow;have CU:Hid (∀t∈T.nx.getD s [],t<n):=Lib.hid (tu (by rw [← Hn.out];exact HT.out.rb) _);have hrm:(T.nx.getD s []).length≤256:=by rw [HT.out.rw _ (aK _ _ _ (by rw [Hn.out];exact hs))];exact HT.out.lY
      have qZ:=mF.tab.nx;obtain ⟨row,xy⟩:∃r,Hid (T.nx.getD s []=r):=⟨_,Lib.hid rfl⟩
      rw [xy.out] at Kn CU hrm cr Xi;obtain ⟨m,Hm⟩:∃m,Hid (row.length=m):=⟨_,Lib.hid rfl⟩
      rw [Hm.out] at Kn hrm cr Xi;obtain ⟨KB,hKB⟩:∃C,Hid (C=((List.replicate (2+2 * m) (0:UInt8)).map aV).toArray):=⟨_,Lib.hid rfl⟩
      have hmk:∀w:World,(Instr.makeSlice 22 (.int .i64 0) (.int .i64 (2+2 * (m:Int)))).run Tryz.prog w= .ok (.slice (some ⟨w.heap.size,0,none⟩) 0 (2+2 * m)) (w.alloc (.cells KB 5)):=fun w=>by
       have h:=mkKey w (2+2 * m) (by omega);rw [hKB.out,← h];congr 2
      have BZ:Mem.Own aV (wr.alloc (.cells KB 5)) wr.heap.size 5 (.slice (some ⟨wr.heap.size,0,none⟩) 0 (2+2 * m)) []:=by rw [hKB.out];exact I1 wr (2+2 * m) (by omega)
      have hO4:=hO.alloc (.cells KB 5);have ZK:=Bc.alloc (.cells KB 5);have aa6:=K5.alloc (.cells KB 5);have Rj:=hBl.alloc (.cells KB 5);have QC:=mF.alloc (.cells KB 5);have uH:(wr.alloc (.cells KB 5)).heap.size=wr.heap.size+1:=bO _ _;have abF:=fun g hg=>(hO.lt g hg).2;have aeq:=K5.lt;clear hcl hW1 hcr hrow hnn;go_upto_region 16 with (fail);have hKs:mb+2≤wr.heap.size:=hS;generalize hkb:wr.heap.size=kb at BZ uH hKs abF aeq ⊢;generalize (wr.alloc (.cells KB 5))=W4 at BZ hO4 ZK aa6 Rj QC uH ⊢;clear hO Bc K5 hBl mF hS hmk cl cr qZ hkb;have hsb:s<bl.length:=by rw [HBN.out];exact hs
      have hb0:bl.getD s 0<65536:=OY.out _ (aK _ _ _ hsb);have c0:=eU Rj s hsb;have HKO:Hid (qB T.nx bl s=bl.getD s 0::row.map fun t=>bl.getD t 0):=Lib.hid (by rw [← xy.out];rfl);generalize bl.getD s 0=b0 at *;have vF:kb≤W4.heap.size:=by omega
      have HS4:=Lib.hid uH;clear uH;have Qg:Hid (Value.int .u8 (IntKind.u8.wrap (b0:Int))=aV (UInt8.ofNat b0)):=Lib.hid (by unfold aV;rw [Jc,Im];congr 1);have XU:Hid (Value.int .u8 (IntKind.u8.wrap ((b0:Int) / 256))=aV (UInt8.ofNat (b0 / 256))):=Lib.hid (by unfold aV;rw [Jc,Im];congr 1);go_cut [15] (fun s15 wx=>∃pk ck,s15= .slice pk 2 ck∧Mem.Own aV wx kb 5 (.slice pk 2 ck) (enc2 [b0])∧Below kb W4 wx)
      ·go_wp2_with fail;go_region_law ((go_loud (refine rF (w:=W4) (f:=aV) (base:=kb) (l:=[]) (v:= .slice (some ⟨kb,0,none⟩) 0 (2+2 * m)) yH (.tmp 58) (.tmp 70) 22 ?_ ?_ rfl kY ?_ BZ (UInt8.ofNat b0) (UInt8.ofNat (b0 / 256)) (.int .u8 (IntKind.u8.wrap (b0:Int))) (.int .u8 (IntKind.u8.wrap ((b0:Int) / 256))) Qg.out XU.out 5 ?_ ?_ ?_ vF (enc2 [b0]) rfl ?_));rfl;rfl;rfl;rfl;simp;simp;intro p3 c3 w3 hO3 hG3 hW3)
       all_goals
        have hb3:Below kb W4 w3:=((ak kb W4).alloc vF _).grown hG3 (by simp;omega) (fun q e=>by have e':some kb=some q:=e;cases e';omega);rw [ny] at hO3;go_wp2;go_meet;exact ⟨p3,c3,rfl,hO3,hb3⟩
      ·obtain ⟨pk,ck,rfl,wJ,qR⟩:=hcut;clear BZ Qg XU;have ab2:=QC.under qR (by omega);have qZ:=ab2.tab.nx;have cr:=Xi.out wc (by rw [dx.out];exact ab2.fB);have hmi:(m:Int)≤256:=by omega
       go_wp2_with fail
       go_loopw [15,78] (fun s15 s78 wq=>∃(i:Nat) (pk:Option Addr) (ck:Nat),i≤m∧s78= .int .i64 i∧s15= .slice pk (2+2 * i) ck∧Mem.Own aV wq kb 5 (.slice pk (2+2 * i) ck) (enc2 (b0::(row.take i).map fun t=>bl.getD t 0))∧Below kb W4 wq) (fun _ s78 _=>m - (intOf s78).toNat)
       case atStart=>exact ⟨0,pk,ck,by omega,rfl,rfl,wJ,qR⟩
       case round=>
        clear wJ qR ab2 qZ cr;obtain ⟨i,pk,ck,him,rfl,rfl,wJ,qR⟩:=hrel;by_cases hil:i<m
        ·have hq2:(i:Int)<(m:Int):=by omega
         obtain ⟨rb,ro,rfl,hct⟩:=iF Kn.out i hil;have JZ:=QC.under qR (by omega);have ct:=hct wr (by rw [dx.out];exact JZ.fB);have IG:i<row.length:=by rw [Hm.out];exact hil
         have ht:row.getD i 0<n:=CU.out _ (aK _ _ _ IG)
         have Yi:Hid ((row.take (i+1)).map (fun t=>bl.getD t 0)=(row.take i).map (fun t=>bl.getD t 0)++[bl.getD (row.getD i 0) 0]):=Lib.hid (by
          have e:row.getD i 0=row[i]:=by rw [dJ,bK IG];rfl
          rw [Av IG,wV,e];rfl)
         generalize row.getD i 0=t at *;have hti:(t:Int)<(n:Int):=by omega
         have htb:t<bl.length:=by rw [HBN.out];exact ht
         have hb1:bl.getD t 0<65536:=OY.out _ (aK _ _ _ htb);have IW:=Rj.below qR (by omega);have c1:=eU IW t htb;generalize bl.getD t 0=b1 at *;obtain ⟨kk,HKK⟩:∃kk,Hid (b0::(row.take i).map (fun t=>bl.getD t 0)=kk):=⟨_,Lib.hid rfl⟩
         have HK2:Hid (enc2 (b0::(row.take (i+1)).map fun t=>bl.getD t 0)=enc2 kk++[UInt8.ofNat b1,UInt8.ofNat (b1 / 256)]):=Lib.hid (by
          rw [Yi.out,← HKK.out,← Uu,Bh];rfl)
         rw [HKK.out] at wJ
         have TG:Hid ((enc2 kk).length=2+2 * i):=Lib.hid (by
          rw [ny,← HKK.out,mO,fe,OL,Hm.out];omega)
         have Va:kb≤wr.heap.size:=aJ vF qR.size;have Qg:Hid (Value.int .u8 (IntKind.u8.wrap (b1:Int))=aV (UInt8.ofNat b1)):=Lib.hid (by unfold aV;rw [Jc,Im];congr 1);have XU:Hid (Value.int .u8 (IntKind.u8.wrap ((b1:Int) / 256))=aV (UInt8.ofNat (b1 / 256))):=Lib.hid (by unfold aV;rw [Jc,Im];congr 1);have hl1:((enc2 kk).length+2) * 1≤140737488355328:=by rw [TG.out];omega
         obtain ⟨rr,SQ⟩:∃rr,Hid (enc2 kk++[UInt8.ofNat b1,UInt8.ofNat (b1 / 256)]=rr):=⟨_,Lib.hid rfl⟩
         clear hct JZ IW;go_wp2_with fail;go_region_law ((go_loud (refine rF (w:=wr) (f:=aV) (base:=kb) (l:=enc2 kk) (v:= .slice pk (2+2 * i) ck) yH (.tmp 82) (.tmp 94) 22 ?_ ?_ rfl kY ?_ wJ (UInt8.ofNat b1) (UInt8.ofNat (b1 / 256)) (.int .u8 (IntKind.u8.wrap (b1:Int))) (.int .u8 (IntKind.u8.wrap ((b1:Int) / 256))) Qg.out XU.out 5 ?_ hl1 ?_ Va rr SQ.out ?_));rfl;rfl;rfl;rfl;(rw [TG.out];omega);intro p3 c3 w3 hO3 hG3 hW3)
         all_goals
          have hb3:Below kb W4 w3:=(qR.alloc Va _).grown hG3 (by simp;omega) (fun q e=>(wJ.lt q e).1);have hl3:rr.length=2+2 * (i+1):=by rw [← SQ.out,eH,TG.out];simp;omega
          rw [hl3] at hO3;rw [← SQ.out,← HK2.out] at hO3;rw [hl3];clear hl3 hl1 wJ qR hG3 hW3 c1;go_wp2
          go_roundw
          case rel=>exact ⟨i+1,p3,c3,by omega,by go_num,rfl,hO3,hb3⟩
          case measure=>simp [intOf];omega
        ·have hq2:¬(i:Int)<(m:Int):=by omega
         obtain rfl:i=m:=by omega
         have hki:(b0::(row.take i).map fun t=>bl.getD t 0)=qB T.nx bl s:=by
          rw [HKO.out,pM (by rw [Hm.out];exact af _)]
         rw [hki] at wJ
         have JJ:Hid (Ov (qB T.nx bl s)):=Lib.hid (by
          rw [HKO.out]
          intro x hx
          rcases nX.1 hx with rfl | hx
          ·exact hb0
          ·obtain ⟨t,ht,rfl⟩:=uW.1 hx
           exact OY.out _ (aK _ _ _ (by rw [HBN.out];exact CU.out t ht)))
         have Iq:Hid ((enc2 (qB T.nx bl s)).length≤1000):=Lib.hid (by rw [ny,HKO.out,mO,fe,Hm.out];omega);have aai:=adT.out;unfold wX at aai;have Eg:=Lib.hid aai;clear aai adT hki;have XF:=hO4.below qR abF;have Mj:=ZK.below qR (by omega);have IW:=Rj.below qR (by omega);have JZ:=QC.under qR (by omega);have Mi:=aa6.block (qR.block mb aeq);have hSq:mb+2≤wr.heap.size:=aJ hKs (aJ vF qR.size);have hcv:=jw (P:=Tryz.prog) Tryz.underlying22 Tryz.underlying5 Tryz.underlying9 wJ.rd;have Ra:=Lib.hid wJ.rd;clear hO4 ZK Rj QC aa6 qR abF wJ hKs vF c0 HKO Xi Kn;obtain ⟨ky,Hky⟩:∃ky,Hid (qB T.nx bl s=ky):=⟨_,Lib.hid rfl⟩
         rw [Hky.out] at hcv JJ Iq Eg Ra;have qh:Hid (Go.keyOf Tryz.prog 9 (.string ⟨(enc2 ky).toArray⟩)=some (zW ky)):=Lib.hid (WideMaps.keyOf_string_mk Tryz.underlying9 (by have:=Iq.out;unfold maxLen ByteArray.size;simp;omega));have hz:∀w:World,(zeroValue 3).run Tryz.prog w= .ok (.int .i64 0) w:=fun w=>by kernel_rfl
         have hsn:=HSN.out;have hnl:s<st.bU.length:=by rw [jq.out.nl];exact hs
         have HLEN:=Lib.hid jq.out.len;have hle:=jq.out.le;rw [OL,Gt.out] at hle;by_cases hm:ky∈st.ks
         ·rw [if_pos hm] at Eg;obtain ⟨q,Hq⟩:∃q,Hid (@List.idxOf _ instBEqOfDecidableEq ky st.ks=q):=⟨_,Lib.hid rfl⟩
          rw [← F9,Hq.out] at Eg;have HM:=Lib.hid hm;clear hm;go_upto_region 27 with (at_lookup;(with_reducible refine oI Mi ?_ (.tmp 98) (.tmp 100) ?_ (Maps.string_keyed Tryz.underlying9) Tryz.underlying249 Tryz.underlying3 (hz _) ?_ ky JJ.out HM.out q Hq.out _ ?_ qh.out ?_);rfl;rfl;rfl;rfl);have c3:=eU Mj s hnl;have f3:=Mj.frozen s;have hG:=aB wr (mb+1) s (.int .i64 (q:Int));have J3:=Mj.set s q;have nE:=XF.kept hG (fun g hg e=>by have:=(XF.lt g hg).1;injection e with e;omega);have aax:=Mi.kept hG (by simp);have ab7:=IW.grown hG (by simp;omega);have YU:=JZ.grown hG (fun b e=>by injection e with e;omega);have hS5:=aJ hSq hG.size;replace J3:Row nV (wr.setCell ⟨mb+1,s,none⟩ (.int .i64 (q:Int))) (mb+1) 3 (st.bU.set s q):=J3;clear XF Mj Mi IW JZ hSq hG hcv;go_wp2_with fail
          go_roundw
          case rel=>exact ⟨j+1,_,pr,kr,by omega,by go_num,Eg,rfl,nE,J3,aax,ab7,YU,hS5⟩
          case measure=>simp [intOf];omega
         ·rw [if_neg hm] at Eg;have HM:=Lib.hid hm;clear hm;go_upto_region 24 with (at_lookup;(with_reducible refine mX Mi ?_ (.tmp 98) (.tmp 100) ?_ (Maps.string_keyed Tryz.underlying9) Tryz.underlying249 Tryz.underlying3 (hz _) ?_ ky JJ.out HM.out _ ?_ qh.out ?_);rfl;rfl;rfl;rfl);clear hcv;go_upto_region 25 with (fail);have hcv:=jw (P:=Tryz.prog) Tryz.underlying22 Tryz.underlying5 Tryz.underlying9 Ra.out;have hkl:st.ks.length<1000000000:=by rw [← HLEN.out];omega
          go_upto_region 26 with (at_mapUpdate;(with_reducible refine C8 Mi ?_ (.tmp 108) (.tmp 110) (.tmp 111) ?_ (Maps.string_keyed Tryz.underlying9) Tryz.underlying249 Tryz.underlying3 Mx Mv ?_ ky JJ.out HM.out hkl _ ?_ qh.out ?_ ?_);rfl;rfl;rfl;rfl;(exact congrArg (fun n:Nat=>Value.int .i64 (n:Int)) HLEN.out);(intro W7 uu gB));have wY:=XF.kept gB (fun g hg e=>by have:=(XF.lt g hg).1;injection e with e;omega);have aeg:=Mj.grown gB (by simp);have ad4:=IW.grown gB (by simp;omega);have QX:=JZ.grown gB (fun b e=>by injection e with e;omega);have sM:=aJ hSq gB.size;have hrl:st.rs.length≤65535:=by omega
          clear XF Mj Mi IW JZ hSq gB hcv;go_upto_region 27 with (at_builtin;(with_reducible refine fq D6 (.tmp 112) (.tmp 114) ?_ ?_ tL ?_ wY s _ ?_ _ ?_ ?_ ?_ ?_ (st.rs++[s]) ?_ ?_);rfl;rfl;rfl;rfl;rfl;(omega);(omega);(exact sM);rfl;(intro p8 c8 W8 mP jf gW));have hne:∀b,b<mb+2→some b≠(Value.slice pr st.rs.length kr).ownBlock:=fun b hb e=>by have:=(wY.lt b e.symm).1;omega
          have Vq:=(aeg.alloc (.cells #[.int .i64 (s:Int)] 3)).grown gW (hne _ (by omega));have Pb:=(uu.alloc (.cells #[.int .i64 (s:Int)] 3)).kept gW (hne _ (by omega));have adq:=(ad4.alloc (.cells #[.int .i64 (s:Int)] 3)).grown gW (hne _ (by omega));have Rs:=(QX.alloc (.cells #[.int .i64 (s:Int)] 3)).grown gW (fun b e=>by have:=(wY.lt b e).1;omega);have wM:=aJ sM jf.size;clear wY aeg uu ad4 QX sM jf gW hne;have c3:=eU Vq s hnl;have f3:=Vq.frozen s;have hG:=aB W8 (mb+1) s (.int .i64 (st.rs.length:Int));have J3:=Vq.set s st.ks.length;have nE:=mP.kept hG (fun g hg e=>by have:=(mP.lt g hg).1;injection e with e;omega);have aax:=Pb.kept hG (by simp);have ab7:=adq.grown hG (by simp;omega);have YU:=Rs.grown hG (fun b e=>by injection e with e;omega);have hS5:=aJ wM hG.size;replace J3:Row nV (W8.setCell ⟨mb+1,s,none⟩ (.int .i64 (st.rs.length:Int))) (mb+1) 3 (st.bU.set s st.ks.length):=by rw [HLEN.out];exact J3
          have hlr:(st.rs++[s]).length=st.rs.length+1:=by simp
          rw [hlr] at nE;have adu:Hid (Value.slice p8 (st.rs.length+1) c8= .slice p8 (st.rs++[s]).length c8):=Lib.hid (by rw [hlr]);clear mP Vq Pb adq Rs wM hG hlr;go_wp2_with fail
          go_roundw
          case rel=>exact ⟨j+1,_,p8,c8,by omega,by go_num,Eg,adu.out,by rw [← adu.out];exact nE,J3,aax,ab7,YU,hS5⟩
          case measure=>simp [intOf];omega
     ·have hq:¬(j:Int)<(k:Int):=by omega
      have hjk:j=k:=by omega
      have hst:lU T.nx bl n l=st:=by
       rw [← HST.out,hjk,pM (by rw [Gt.out];exact af _)];rfl
      have Vh:=jq.out;rw [hjk,pM (by rw [Gt.out];exact af _)] at Vh;have Xg:=Lib.hid Vh;have hstep:=Ul (nx:=T.nx) (n:=n) (l:=l) (k+1) c bl (by omega);rw [hst] at hstep;have hgr:=nL (nx:=T.nx) (bl:=bl) (n:=n) (l:=l) (by rw [← Hn.out];exact HLO.out) HIT.out;rw [hst] at hgr;have hle:st.rs.length≤k:=by have:=Xg.out.le;rw [Gt.out] at this;exact this
      have hnl:=Xg.out.nl;by_cases hcn:st.rs.length=c
      ·rw [if_pos hcn,← HR.out] at hstep;have HE:=Lib.hid hstep;have e1:((st.rs.length:Int)==(c:Int))=true:=by rw [beq_iff_eq];omega
       have hcn':(st.rs.length:Int)=(c:Int):=by omega
       have JJ:=Lib.hid (l9 (base:=tb) Bc (by omega) (by rw [hnl];unfold maxLen;omega));have HBF:=Lib.hid mF.fB;have HOR:=Lib.hid (hO.mono (by omega:tb≤mb+2));clear hstep hst hgr Vh Bc K5 hBl mF hO;go_wp2_with fail;go_ret2;refine ⟨some ⟨mb+1,0,none⟩,n,pr,kr,?_,?_,?_,by rw [dx.out];exact HBF.out⟩
       ·rw [HE.out];show _=Ending.returned (.tuple #[.slice _ st.bU.length _, .slice _ st.rs.length _]);rw [hnl,hcn];rfl
       ·rw [HE.out,dx.out];have h:=JJ.out;rw [hnl] at h;show Mem.Own nV _ _ _ (.slice _ st.bU.length _) st.bU;rw [hnl];exact h
       ·rw [HE.out,dx.out];exact HOR.out
      ·rw [if_neg hcn,← HR.out] at hstep
       have HE:Hid (T.refine l=uX T.nx n l (k+1 - st.rs.length) st.bU st.rs.length):=Lib.hid (by
        rw [hstep]
        refine KF (by rw [← Hn.out];exact HLO.out) _ _ _ _ (by rw [Gt.out];omega) (by rw [Gt.out];omega) Xg.out.hit)
       have e1:((st.rs.length:Int)==(c:Int))=false:=by rw [beq_eq_false_iff_ne];omega
       have hcn':¬(st.rs.length:Int)=(c:Int):=by omega
       have HB2:Hid (∀x∈st.bU,x<65536):=Lib.hid fun x hx=>by
        have h1:=Xg.out.nb x hx;have h2:=Xg.out.len;omega
       have hcl:c<st.rs.length:=by omega
       have afK:=Lib.hid Xg.out.hit;have hrl:(st.rs.length:Int)≤65535:=by omega
       clear hstep hst hgr Vh K5 hBl hO hcn;go_wp2_with fail
       go_roundw
       case rel=>exact ⟨mb+1,st.rs.length,st.bU,rfl,rfl,Bc,by omega,hnl,HB2,hle,HE,afK,mF⟩
       case measure=>simp [intOf];omega
end
section
open Go Go.RowKit Mem
theorem Sj:Bu Tryz.prog 33 65 4 32:=Bu.mk' (z:= .agg #[.int .u64 0, .int .u64 0, .int .u64 0, .int .u64 0]) Tryz.underlying33 (by kernel_rfl) rfl
theorem dX (c:Cl):(aG c).length=4:=rfl
def zV (n:Int):Value:= .int .i64 n
theorem mJ {w:World} {b:Nat} {t:TypeId} {l:List Int} (h:Row zV w b t l) (k:Nat) (hk:k<l.length):w.cell? ⟨b,k,none⟩=some (.int .i64 (l.getD k 0)):=by
 rw [h.cell?,bK hk,dJ,bK hk];rfl
structure wU (w wr:World) (tb:Nat) (T:TB) (vn va:OC) (p9:Option Addr) (c9:Nat) (sW:Option Addr) (c10:Nat) (M:MS):Prop where
 cells:Mem.Own nV wr (tb+3) 3 (.slice p9 M.cells.length c9) M.cells
 cls:aP 4 aG wr (tb+3) 65 (.slice sW M.cls.length c10) M.cls
 of:Row zV wr (tb+2) 3 M.of
 map:fA Ov zW Tryz.prog 9 3 wr (tb+1) M.ks
 rf:kD w wr tb T vn va
 sz:tb+3≤wr.heap.size
section
variable {w wr w':World} {tb:Nat} {T:TB} {vn va:OC} {p9 sW:Option Addr} {c9 c10:Nat} {M:MS}
theorem wU.under (h:wU w wr tb T vn va p9 c9 sW c10 M) (hb:Below wr.heap.size wr w'):wU w w' tb T vn va p9 c9 sW c10 M:=
 ⟨h.cells.below' hb,h.cls.below' hb,h.of.below hb h.of.lt,h.map.below hb,h.rf.below hb,aJ h.sz hb.size⟩
theorem wU.setOf (h:wU w wr tb T vn va p9 c9 sW c10 M) (c:Nat) (q:Int):wU w (wr.setCell ⟨tb+2,c,none⟩ (zV q)) tb T vn va p9 c9 sW c10 {M with of:=M.of.set c q}:=by
 have hG:=aB wr (tb+2) c (zV q);exact ⟨h.cells.kept hG (fun g hg e=>by have:=(h.cells.lt g hg).1;injection e with e;omega),h.cls.grown hG (fun g hg e=>by have:=(h.cls.lt g hg).1;injection e with e;omega),h.of.set c q,h.map.kept hG (by simp),h.rf.grown hG (fun b e=>by injection e with e;omega),aJ h.sz hG.size⟩
theorem wU.up (h:wU w wr tb T vn va p9 c9 sW c10 M) {kb:Nat} (hk:wr.heap.size=kb) (hb:Below kb wr w'):wU w w' tb T vn va p9 c9 sW c10 M:=h.under (hk▸hb)
theorem wU.alloc (h:wU w wr tb T vn va p9 c9 sW c10 M) (o:Obj):wU w (wr.alloc o) tb T vn va p9 c9 sW c10 M:=h.under ((ak _ _).alloc (af _) _)
end
theorem gp {α:Type} {K:Nat} {enc:α→List OC} {w:World} {base:Nat} {e:TypeId} {p:Option Addr} {c:Nat} {l:List α} (hk:∀x,(enc x).length=K) (h:aP K enc w base e (.slice p l.length c) l) (i:Nat) (hi:i<l.length):∃g,p=some ⟨g,0,none⟩∧g<w.heap.size∧At oV w g (i * K) (enc l[i]):=by
 rcases h.2 with ⟨_,h0⟩ | ⟨g,cap,cur,he,hb,hg,hn,hm,hs,ht⟩
 ·omega
 ·injection he with he1 he2 GZ
  subst he1;refine ⟨g,rfl,(jB.1 hg).1,fun j hj=> ?_⟩
  have h1:((l.flatMap enc).map oV)[i * K+j]?=(enc l[i])[j]?.map oV:=by
   rw [kJ,flat_get enc l (fun x _=>hk x) i hi j hj]
  have hlt:i * K+j<l.length * K:=by
   have:(i+1) * K≤l.length * K:=NY K hi;rw [hk] at hj;rw [NP] at this;omega
  rw [← ht,vk hlt] at h1;unfold World.cell?;rw [hg];show cur[i * K+j]?=_;rw [bK hj] at h1 ⊢;rw [← qc0,h1]
theorem adF {P:Program} {ops:Array Oper} {o:Oper} {a:Act} {w w':World} {K:Act→World→Prop} {Q:Exit→Act→World→Prop} {X:Prop} {v:Value} {d:Nat} (hd:o.dst=some d) (hw:Region.wanted o (yielded ops a.tmps)=true)
  (he:(execOp a.eval o).run P w= .ok (.value v) w')
  (h:K {a with tmps:=a.tmps.setIfInBounds d v} w'):if Region.wanted o (yielded ops a.tmps)=true then Oper.wp P o a w K Q else X:=by
 rw [if_pos hw];unfold Oper.wp;rw [he];show K (a.put o.dst _) _;rw [hd];exact h
theorem acp (w:World) (C:Array Value) (T:TB) (hC:kz w C T) (hT:T.Ok) (vb vr:Value) (block az:List Nat) (l:List Nat) (hb:Rd nV w vb block) (hr:Rd nV w vr az) (hL:mo T.nx.length l) (hB:TN T.nx.length l (block,az)):
  Calls Tryz.prog 229 #[.agg C,vb,vr] w fun e w'=>∃p1 c1 p2 c2,e= .returned (.tuple #[.slice p1 (T.merge (block,az)).cells.length c1, .slice p2 (T.merge (block,az)).cls.length c2])∧Mem.Own nV w' w.heap.size 3 (.slice p1 (T.merge (block,az)).cells.length c1) (T.merge (block,az)).cells∧aP 4 aG w' w.heap.size 65 (.slice p2 (T.merge (block,az)).cls.length c2) (T.merge (block,az)).cls∧Below w.heap.size w w':=by
 obtain ⟨⟨vn,jC⟩,⟨va,hva⟩,kQ,h1,h2,h3⟩:=hC;obtain ⟨pn,kn,rfl⟩:=h1.slice;obtain ⟨pb,kb,rfl⟩:=hb.slice;obtain ⟨pr,kr,rfl⟩:=hr.slice;have HN:=Lib.hid h1;have VK:=Lib.hid hb;have HRR:=Lib.hid hr;have HT:=Lib.hid hT;have HBO:=Lib.hid hB;obtain ⟨n,Hn⟩:∃n,Hid (T.nx.length=n):=⟨_,Lib.hid rfl⟩
 have g1:1≤n:=by rw [← Hn.out];exact hT.n1
 have g2:n≤65535:=by rw [← Hn.out];exact hT.nn
 have hbl:block.length=n:=by rw [← Hn.out];exact hB.bl
 have hln:=hL.len;have hrl:=hB.rl;rw [Hn.out] at HN kQ hln;obtain ⟨R,DL⟩:∃n,Hid (az.length=n):=⟨_,Lib.hid rfl⟩
 have hRn:R≤65535:=by rw [← DL.out];have h:=hB.rl;simp only at h;omega
 have GQ:=Lib.hid hbl;rw [hbl] at VK ⊢;rw [DL.out] at HRR ⊢;have hcc:T.cells≤256:=hT.lY;obtain ⟨cn,WG⟩:∃n,Hid (T.cells=n):=⟨_,Lib.hid rfl⟩
 rw [WG.out] at hcc;have Ip:Hid (∀x∈l,x<n):=Lib.hid (by rw [← Hn.out];exact hL.lt);clear h1 h2 hb hr hT hB hL hbl hln hrl;have hR0:kD w (w.alloc (.cells C 166)) w.heap.size T ⟨.slice pn n kn,jC⟩ ⟨va,hva⟩:=⟨⟨Row.new _ _ (by rw [kQ]),h3⟩,(ak _ _).alloc (af _) _,by simp⟩
 have hS0:(w.alloc (.cells C 166)).heap.size=w.heap.size+1:=bO _ _;clear kQ;go_enter Tryz.func229,Tryz.ntmps229;have hmm:= @run_makeMap Tryz.prog;go_upto_region 1 with (fail);obtain ⟨tb,dx⟩:∃tb,Hid (w.heap.size=tb):=⟨_,Lib.hid rfl⟩
 generalize (w.alloc (.cells C 166))=W at hR0 hS0 ⊢;rw [dx.out] at hR0 hS0 ⊢;have hmp:fA Ov zW Tryz.prog 9 3 (W.alloc (.map #[] 0)) W.heap.size []:=fA.made W;have iw:=hR0.alloc (.map #[] 0);have hS1:(W.alloc (.map #[] 0)).heap.size=tb+2:=by rw [bO,hS0]
 rw [hS0] at hmp;go_upto_region 4 with (fail);generalize (W.alloc (.map #[] 0))=W1 at hmp iw hS1 ⊢;clear hR0 hS0;clear W;have lY:=iw.tab.cells;rw [WG.out] at lY;obtain ⟨MB,lg⟩:∃C,Hid (C=((List.replicate cn 0).map nV).toArray):=⟨_,Lib.hid rfl⟩
 have hmk:∀w:World,(Instr.makeSlice 92 (.int .i64 (cn:Int)) (.int .i64 (cn:Int))).run Tryz.prog w= .ok (.slice (some ⟨w.heap.size,0,none⟩) cn cn) (w.alloc (.cells MB 3)):=fun w=>by rw [lg.out];exact uh w cn (by omega)
 have Gj:Row zV (W1.alloc (.cells MB 3)) W1.heap.size 3 (List.replicate cn 0):=by
  rw [lg.out];refine Row.new _ _ ?_;simp [nV,zV]
 have hR2:=iw.alloc (.cells MB 3);have abJ:=hmp.alloc (.cells MB 3);have hS2:(W1.alloc (.cells MB 3)).heap.size=tb+3:=by rw [bO,hS1]
 rw [hS1] at Gj;go_upto_region 5 with (fail);generalize (W1.alloc (.cells MB 3))=W2 at Gj hR2 abJ hS2 ⊢;clear hmp iw hS1 lY hmk lg;clear W1 MB;go_wp2_with fail
 go_loopw [27] (fun SA wr=>∃k:Nat,k≤cn∧SA= .int .i64 k∧Row zV wr (tb+2) 3 (List.replicate k (-1)++List.replicate (cn - k) 0)∧fA Ov zW Tryz.prog 9 3 wr (tb+1) []∧kD w wr tb T ⟨.slice pn n kn,jC⟩ ⟨va,hva⟩∧tb+3≤wr.heap.size) (fun SA _=>cn - (intOf SA).toNat)
 case atStart=>exact ⟨0,by omega,rfl,by simpa using Gj,abJ,hR2,by omega⟩
 case round=>
  clear Gj abJ hR2 hS2;obtain ⟨k,hk,rfl,Gj,K5,mF,hS⟩:=hrel;by_cases hlt:k<cn
  ·have hq:(k:Int)<(cn:Int):=by omega
   have hlen:(List.replicate k (-1:Int)++List.replicate (cn - k) 0).length=cn:=by simp;omega
   have co:=mJ Gj k (by rw [hlen];exact hlt);have fo:=Gj.frozen k;have adt:=Gj.set k (-1)
   have hset:(List.replicate k (-1:Int)++List.replicate (cn - k) 0).set k (-1)=List.replicate (k+1) (-1)++List.replicate (cn - (k+1)) 0:=by
    rw [show cn - k=(cn - (k+1))+1 by omega,qcD (n:=cn - (k+1)),GA _ _ (by simp),SY,D7,xY,qcw (n:=k),zD];rfl
   rw [hset] at adt;have hG:=aB wr (tb+2) k (zV (-1));have afA:=K5.kept hG (by simp);have Zi:=mF.grown hG (fun b e=>by injection e with e;omega);have hS':=aJ hS hG.size;clear Gj K5 mF hS hG hset hlen;go_wp2_with fail
   go_roundw
   case rel=>exact ⟨k+1,by omega,by go_num,adt,afA,Zi,hS'⟩
   case measure=>simp [intOf];omega
  ·obtain rfl:k=cn:=by omega
   rw [D7,qcl,D8] at Gj;have wS:wU w wr tb T ⟨.slice pn n kn,jC⟩ ⟨va,hva⟩ none 0 none 0 (iG T block az 0):=⟨Own.nil _ _ _,aP.nil _ _ _,by rw [show (iG T block az 0).of=List.replicate T.cells (-1) from rfl,WG.out];exact Gj,K5,mF,hS⟩
   clear Gj K5 mF hS;go_wp2_with fail
   go_loopw [9,10,34] (fun s9 s10 s34 wr=>∃(b:Nat) (M:MS) (p9:Option Addr) (c9:Nat) (sW:Option Addr) (c10:Nat),b≤256∧s34= .int .i64 b∧Hid (iG T block az b=M)∧s9= .slice p9 M.cells.length c9∧s10= .slice sW M.cls.length c10∧wU w wr tb T ⟨.slice pn n kn,jC⟩ ⟨va,hva⟩ p9 c9 sW c10 M) (fun _ _ s34 _=>256 - (intOf s34).toNat)
   case atStart=>exact ⟨0,_,none,0,none,0,by omega,rfl,Lib.hid rfl,rfl,rfl,wS⟩
   case round=>
    clear wS hk hlt;obtain ⟨b,M,p9,c9,sW,c10,hb,rfl,HM,rfl,rfl,wS⟩:=hrel;have hok:=lN HT.out block az b (by omega);rw [HM.out,WG.out] at hok;have jq:=Lib.hid hok;clear hok;by_cases hlt:b<256
    ·have hq:(b:Int)<256:=by omega
     have cc:=wS.rf.tab.c b hlt;have hck:T.cell.getD b 0<k:=by rw [← WG.out];exact kX HT.out b hlt
     have HM1:Hid (iG T block az (b+1)=yG (jG T.nx block az M (T.cell.getD b 0)) (T.cell.getD b 0) b):=Lib.hid (by rw [iG,HM.out]);generalize T.cell.getD b 0=c at *;have hco:c<M.of.length:=by rw [jq.out.ol];exact hck
     have co:=mJ wS.of c hco;have hci:(c:Int)<(k:Int):=by omega
     have TP:=yU jq.out T.nx block az hck;have TP:=Lib.hid TP;obtain ⟨oc,Hoc⟩:∃oc,Hid (M.of.getD c 0=oc):=⟨_,Lib.hid rfl⟩
     rw [Hoc.out] at co;obtain ⟨MF,HMF⟩:∃MF,Hid (jG T.nx block az M c=MF):=⟨_,Lib.hid rfl⟩
     rw [HMF.out] at TP HM1;go_upto_if 45 with (fail);go_cut [9,10] (fun s9 s10 wx=>∃(p9:Option Addr) (c9:Nat) (sW:Option Addr) (c10:Nat),s9= .slice p9 MF.cells.length c9∧s10= .slice sW MF.cls.length c10∧wU w wx tb T ⟨.slice pn n kn,jC⟩ ⟨va,hva⟩ p9 c9 sW c10 MF)
     ·by_cases hneg:oc<0
      ·have xZ:=HMF.out;rw [jG,Hoc.out,if_pos hneg] at xZ;have PL:=Lib.hid xZ;clear xZ;obtain ⟨KB,hKB⟩:∃C,Hid (C=((List.replicate (2 * R) (0:UInt8)).map aV).toArray):=⟨_,Lib.hid rfl⟩
       have hmk:∀w:World,(Instr.makeSlice 22 (.int .i64 0) (.int .i64 (2 * (R:Int)))).run Tryz.prog w= .ok (.slice (some ⟨w.heap.size,0,none⟩) 0 (2 * R)) (w.alloc (.cells KB 5)):=fun w=>by
        have h:=mkKey w (2 * R) (by omega);rw [hKB.out,← h];congr 2
       have BZ:Mem.Own aV (wr.alloc (.cells KB 5)) wr.heap.size 5 (.slice (some ⟨wr.heap.size,0,none⟩) 0 (2 * R)) []:=by rw [hKB.out];exact I1 wr (2 * R) (by omega)
       have hB4:Below wr.heap.size wr (wr.alloc (.cells KB 5)):=(ak _ _).alloc (af _) _;have hKs:=wS.sz;go_upto_region 16 with (fail);obtain ⟨kb,vL⟩:∃kb,Hid (wr.heap.size=kb):=⟨_,Lib.hid rfl⟩
       rw [vL.out] at BZ hB4 hKs ⊢;generalize (wr.alloc (.cells KB 5))=W4 at BZ hB4 ⊢;have HMg:=Lib.hid wS;clear hmk co cc wS;generalize wr=w1 at HMg vL hB4 ⊢;generalize Value.bool (decide (oc<0))=ob;go_wp2_with fail
       go_loopw [15,52] (fun s15 s52 wq=>∃(i:Nat) (pk:Option Addr) (ck:Nat),i≤R∧s52= .int .i64 i∧s15= .slice pk (2 * i) ck∧Mem.Own aV wq kb 5 (.slice pk (2 * i) ck) (enc2 ((az.take i).map fun s=>jy T.nx block s c))∧Below kb w1 wq) (fun _ s52 _=>R - (intOf s52).toNat)
       case atStart=>exact ⟨0,_,_,by omega,rfl,rfl,BZ,hB4⟩
       case round=>
        clear BZ hB4;obtain ⟨i,pk,ck,hi,rfl,rfl,wJ,qR⟩:=hrel;by_cases hil:i<R
        ·have hq2:(i:Int)<(R:Int):=by omega
         obtain ⟨rb,ro,rfl,hcs⟩:=iF HRR.out i hil;have wD:=HMg.out.up vL.out qR;have cs:=hcs wr (by rw [dx.out];exact wD.rf.fB);have IG:i<az.length:=by rw [DL.out];exact hil
         have hs:az.getD i 0<n:=Ip.out _ (HBO.out.rm _ (aK _ _ _ IG))
         have Yi:Hid ((az.take (i+1)).map (fun s=>jy T.nx block s c)=(az.take i).map (fun s=>jy T.nx block s c)++[jy T.nx block (az.getD i 0) c]):=Lib.hid (by
          have e:az.getD i 0=az[i]:=by rw [dJ,bK IG];rfl
          rw [Av IG,wV,e];rfl)
         generalize az.getD i 0=s at *;have hsi:(s:Int)<(n:Int):=by omega
         have hW1:Below w.heap.size w wr:=by rw [dx.out];exact wD.rf.fB
         obtain ⟨nb,no,rq,rd,rfl,hnn,hnb,hcr,hrow⟩:=sK HN.out s (by rw [Hn.out];exact hs);have cr:wr.cell? ⟨nb,no+s,none⟩=some (.slice rq (T.nx.getD s []).length rd):=(hW1.cell (p:=⟨nb,no+s,none⟩) hnb).trans hcr;have hrl:(T.nx.getD s []).length=k:=by rw [HT.out.rw _ (aK _ _ _ (by rw [Hn.out];exact hs)),WG.out]
         have CU:Hid (∀t∈T.nx.getD s [],t<n):=Lib.hid (tu (by rw [← Hn.out];exact HT.out.rb) _);have LG:=wD.rf.tab.nx;have uP:Hid (jy T.nx block s c=block.getD ((T.nx.getD s []).getD c 0) 0):=Lib.hid rfl;obtain ⟨row,xy⟩:∃r,Hid (T.nx.getD s []=r):=⟨_,Lib.hid rfl⟩
         rw [xy.out] at hrow CU hrl cr uP;have Hrl:=Lib.hid hrl;rw [hrl] at hrow cr;clear hrl;obtain ⟨Xl,Wt,rfl,hct⟩:=iF hrow c hck;have ct:=hct wr hW1;have ht:row.getD c 0<n:=CU.out _ (aK _ _ _ (by rw [Hrl.out];exact hck));generalize row.getD c 0=t at *;have hti:(t:Int)<(n:Int):=by omega
         obtain ⟨bb,bo,rfl,hcb⟩:=iF VK.out t ht;have cb:=hcb wr hW1
         have hb1:block.getD t 0<65536:=by
          have:=HBO.out.bb _ (aK block t 0 (by rw [GQ.out];exact ht));have h2:=DL.out;simp only at this;omega
         rw [uP.out] at Yi;generalize block.getD t 0=b1 at *;obtain ⟨kk,HKK⟩:∃kk,Hid ((az.take i).map (fun s=>jy T.nx block s c)=kk):=⟨_,Lib.hid rfl⟩
         have HK2:Hid (enc2 ((az.take (i+1)).map fun s=>jy T.nx block s c)=enc2 kk++[UInt8.ofNat b1,UInt8.ofNat (b1 / 256)]):=Lib.hid (by
          rw [Yi.out,← HKK.out,Bh];rfl)
         rw [HKK.out] at wJ
         have TG:Hid ((enc2 kk).length=2 * i):=Lib.hid (by
          rw [ny,← HKK.out,fe,OL,DL.out];omega)
         have Va:kb≤wr.heap.size:=by rw [← vL.out];exact qR.size
         have Qg:Hid (Value.int .u8 ((b1:Int) % 256)=aV (UInt8.ofNat b1)):=Lib.hid (by unfold aV;rw [Jc];congr 1);have XU:Hid (Value.int .u8 ((b1:Int) / 256)=aV (UInt8.ofNat (b1 / 256))):=Lib.hid (by unfold aV;rw [Jc];congr 1;omega);have hl1:((enc2 kk).length+2) * 1≤140737488355328:=by rw [TG.out];omega
         have hl2:(enc2 kk).length+2≤140737488355328:=by rw [TG.out];omega
         have hl1:=Lib.hid hl1;have hl2:=Lib.hid hl2;obtain ⟨rr,SQ⟩:∃rr,Hid (enc2 kk++[UInt8.ofNat b1,UInt8.ofNat (b1 / 256)]=rr):=⟨_,Lib.hid rfl⟩
         clear hcs hct hcb hnn hcr hrow wD hW1;go_upto_region 21 with (at_builtin;go_loud (with_reducible refine Nv yH (.tmp 67) (.tmp 73) ?_ ?_ kY ?_ wJ (UInt8.ofNat b1) (UInt8.ofNat (b1 / 256)) (.int .u8 ((b1:Int) % 256)) (.int .u8 ((b1:Int) / 256)) Qg.out XU.out 5 ?_ hl1.out hl2.out Va rr SQ.out ?_);rfl;rfl;rfl;rfl;(intro p3 c3 w3 hO3 hB3 hG3));have hb3:=qR.trans hB3;have hl3:rr.length=2 * (i+1):=by rw [← SQ.out,eH,TG.out];simp;omega
         rw [hl3] at hO3;rw [← SQ.out,← HK2.out] at hO3;rw [hl3];clear hl3 hl1 hl2 wJ qR hG3 hB3 LG ct cb cr cs;go_wp2_with fail
         go_roundw
         case rel=>exact ⟨i+1,p3,c3,by omega,by go_num,rfl,hO3,hb3⟩
         case measure=>simp [intOf];omega
        ·obtain rfl:i=R:=by omega
         have hki:(az.take i).map (fun s=>jy T.nx block s c)=tQ T.nx block az c:=by
          rw [pM (by rw [DL.out];exact af _)];rfl
         rw [hki] at wJ
         have JJ:Hid (Ov (tQ T.nx block az c)):=Lib.hid (by
          intro x hx
          obtain ⟨s,hs,rfl⟩:=uW.1 hx
          by_cases h:(T.nx.getD s []).getD c 0<block.length
          ·have:=HBO.out.bb _ (aK block _ 0 h)
           have h2:=DL.out
           simp only at this
           show block.getD _ 0<_
           omega
          ·show block.getD _ 0<_
           rw [dJ,qJ (by omega)]
           show 0<65536
           omega)
         have Iq:Hid ((enc2 (tQ T.nx block az c)).length≤200000):=Lib.hid (by rw [ny,tQ,fe,DL.out];omega);have wD:=HMg.out.up vL.out qR;have hcv:=jw (P:=Tryz.prog) Tryz.underlying22 Tryz.underlying5 Tryz.underlying9 wJ.rd;have Ra:=Lib.hid wJ.rd;obtain ⟨ky,Hky⟩:∃ky,Hid (tQ T.nx block az c=ky):=⟨_,Lib.hid rfl⟩
         rw [Hky.out] at hcv JJ Iq PL Ra;have qh:Hid (Go.keyOf Tryz.prog 9 (.string ⟨(enc2 ky).toArray⟩)=some (zW ky)):=Lib.hid (WideMaps.keyOf_string_mk Tryz.underlying9 (by have:=Iq.out;unfold maxLen ByteArray.size;simp;omega));have hz:∀w:World,(zeroValue 3).run Tryz.prog w= .ok (.int .i64 0) w:=fun w=>by kernel_rfl
         clear HMg vL qR wJ hki;by_cases hm:ky∈M.ks
         ·have xZ:=PL.out;rw [if_pos hm] at xZ;obtain ⟨q,Hq⟩:∃q,Hid (@List.idxOf _ instBEqOfDecidableEq ky M.ks=q):=⟨_,Lib.hid rfl⟩
          rw [← F9,Hq.out] at xZ;have I7:=Lib.hid xZ;have Sk:=Lib.hid hm;clear hm PL xZ;have hmp:=wD.map;go_upto_region 28 with (at_lookup;(with_reducible refine oI hmp ?_ (.tmp 77) (.tmp 79) ?_ (Maps.string_keyed Tryz.underlying9) Tryz.underlying249 Tryz.underlying3 (hz _) ?_ ky JJ.out Sk.out q Hq.out _ ?_ qh.out ?_);rfl;rfl;rfl;rfl);have c3:=mJ wD.of c hco;have f3:=wD.of.frozen c;have Gr:=wD.setOf c (q:Int);have hM6:Hid (wU w (wr.setCell ⟨tb+2,c,none⟩ (.int .i64 (q:Int))) tb T ⟨.slice pn n kn,jC⟩ ⟨va,hva⟩ p9 c9 sW c10 {M with of:=M.of.set c (q:Int)}):=Lib.hid Gr;clear wD hcv hmp Gr;go_wp2_with fail;go_meet;exact ⟨p9,c9,sW,c10,by rw [← I7.out],by rw [← I7.out],by rw [← I7.out];exact hM6.out⟩
         ·have xZ:=PL.out;rw [if_neg hm] at xZ;have I7:=Lib.hid xZ;have Sk:=Lib.hid hm;clear hm PL xZ;have hmp:=wD.map;go_upto_region 24 with (at_lookup;(with_reducible refine mX hmp ?_ (.tmp 77) (.tmp 79) ?_ (Maps.string_keyed Tryz.underlying9) Tryz.underlying249 Tryz.underlying3 (hz _) ?_ ky JJ.out Sk.out _ ?_ qh.out ?_);rfl;rfl;rfl;rfl);clear hcv;go_upto_region 25 with (fail);have hcv:=jw (P:=Tryz.prog) Tryz.underlying22 Tryz.underlying5 Tryz.underlying9 Ra.out;have HLEN:=Lib.hid jq.out.cl;have ae3:=Lib.hid jq.out.cc;have hle:=jq.out.le;have hkl:M.ks.length<1000000000:=by omega
          go_upto_region 26 with (at_mapUpdate;(with_reducible refine C8 hmp ?_ (.tmp 87) (.tmp 89) (.tmp 90) ?_ (Maps.string_keyed Tryz.underlying9) Tryz.underlying249 Tryz.underlying3 Mx Mv ?_ ky JJ.out Sk.out hkl _ ?_ qh.out ?_ ?_);rfl;rfl;rfl;rfl;(exact congrArg (fun n:Nat=>Value.int .i64 (n:Int)) HLEN.out);(intro W7 uu gB));have wY:=wD.cells.kept gB (fun g hg e=>by have:=(wD.cells.lt g hg).1;injection e with e;omega);have Xb:=wD.cls.grown gB (fun g hg e=>by have:=(wD.cls.lt g hg).1;injection e with e;omega);have hF7:=wD.of.grown gB (by simp);have QX:=wD.rf.grown gB (fun b e=>by injection e with e;omega);have sM:=aJ wD.sz gB.size;have hn7:M.cells.length≤256:=by rw [HLEN.out];omega
          have hc7:M.cls.length≤256:=by rw [ae3.out];omega
          clear wD hmp gB hcv;go_upto_region 27 with (at_builtin;(with_reducible refine fq D6 (.tmp 91) (.tmp 93) ?_ ?_ tL ?_ wY c _ ?_ _ ?_ ?_ ?_ ?_ (M.cells++[c]) ?_ ?_);rfl;rfl;rfl;rfl;rfl;(omega);(omega);(exact sM);rfl;(intro p8 c8 W8 mP jf gW));have hne:∀b,b<tb+3→some b≠(Value.slice p9 M.cells.length c9).ownBlock:=fun b hb e=>by have:=(wY.lt b e.symm).1;omega
          have hF8:=(hF7.alloc (.cells #[.int .i64 (c:Int)] 3)).grown gW (hne _ (by omega));have Pb:=(uu.alloc (.cells #[.int .i64 (c:Int)] 3)).kept gW (hne _ (by omega));have Rs:=(QX.alloc (.cells #[.int .i64 (c:Int)] 3)).grown gW (fun b e=>by have:=(wY.lt b e).1;omega);have KU:=(Xb.grown (Us W7 (.cells #[.int .i64 (c:Int)] 3) none) (fun _ _=>by simp)).grown gW (Xb.type wY (by decide));have wM:=aJ sM jf.size;clear hne wY hF7 uu QX Xb sM gW jf;go_upto_region 28 with (at_builtin;(with_reducible refine qM Sj (by decide) dX (.tmp 95) (.tmp 97) ?_ ?_ ?_ KU bV _ ?_ _ ?_ ?_ ?_ ?_ (M.cls++[bV]) rfl ?_);rfl;rfl;rfl;rfl;rfl;(omega);(omega);(exact wM);(intro p11 c11 W9 Ro GM dw));have adD:=fun g hg e=>(KU.type mP (by decide)) g e (Eq.symm hg);have hne:∀b,b<tb+3→some b≠(Value.slice sW M.cls.length c10).ownBlock:=fun b hb e=>by have:=(KU.lt b e.symm).1;omega
          have BF:=(mP.alloc _).kept dw adD;have hF9:=(hF8.alloc _).grown dw (hne _ (by omega));have adY:=(Pb.alloc _).kept dw (hne _ (by omega));have adC:=(Rs.alloc _).grown dw (fun b e=>by have:=(KU.lt b e).1;omega);have KX:=aJ wM GM.size;have hM9:wU w W9 tb T ⟨.slice pn n kn,jC⟩ ⟨va,hva⟩ p8 c8 p11 c11 ⟨M.ks++[ky],M.cells++[c],M.cls++[bV],M.of⟩:=⟨BF,Ro,hF9,adY,adC,KX⟩
          clear adD hne mP hF8 Pb Rs KU wM dw GM BF hF9 adY adC KX Ro;have c3:=mJ hM9.of c hco;have f3:=hM9.of.frozen c;have hM6:Hid (wU w (W9.setCell ⟨tb+2,c,none⟩ (.int .i64 (M.cells.length:Int))) tb T ⟨.slice pn n kn,jC⟩ ⟨va,hva⟩ p8 c8 p11 c11 MF):=Lib.hid (by rw [← I7.out,HLEN.out];exact hM9.setOf c _);clear hM9;go_wp2_with fail;go_meet;exact ⟨p8,c8,p11,c11,by rw [← I7.out];simp,by rw [← I7.out];simp,hM6.out⟩
      ·have xZ:M=MF:=by rw [← HMF.out,jG,Hoc.out,if_neg hneg]
       subst xZ;go_wp2_with fail;go_meet;exact ⟨p9,c9,sW,c10,rfl,rfl,wS⟩
     ·obtain ⟨q9,d9,q10,d10,rfl,rfl,wS⟩:=hcut;have hmo:=TP.out.1;obtain ⟨q,Hq⟩:∃q:Nat,Hid (MF.of.getD c 0=(q:Int)):=⟨_,Lib.hid (qcC TP.out.2).symm⟩
      have hcm:c<MF.of.length:=by rw [hmo.ol];exact hck
      have hqk:q<MF.cls.length:=by
       have h:=hmo.ob _ (aK _ _ 0 hcm);rw [Hq.out] at h;rw [hmo.cc];omega
      have hqi:(q:Int)<(MF.cls.length:Int):=by omega
      have agz:MF.cls.length≤256:=by rw [hmo.cc];have:=hmo.le;omega
      obtain ⟨g,rfl,hgl,hat⟩:=gp dX wS.cls q hqk;have co2:=mJ wS.of c hcm;rw [Hq.out] at co2;have hof:=wS.of.lt;have hoc:∀X,Below wc.heap.size wc X→X.cell? ⟨tb+2,c,none⟩=some (.int .i64 (q:Int)):=fun X hX=>(hX.cell (p:=⟨tb+2,c,none⟩) hof).trans co2
      have Sk:Hid (iG T block az (b+1)={MF with cls:=MF.cls.set q (MF.cls[q].union (bV.add b))}):=Lib.hid (by
       rw [HM1.out,yG,Hq.out,PI,dJ,bK hqk];rfl)
      have HLK:Hid (MF.cls.length=MF.ks.length):=Lib.hid hmo.cc;generalize MF.cls[q]=x at hat Sk;clear hmo co2;go_upto_region 29 with (fail);go_wp2_with fail;refine aC (S:=fun X=>Below wc.heap.size wc X) 17 rfl (by kernel_rfl) (ak _ _).drew fun hS=> ?_;refine tk 0 103 (.slice (some ⟨g,0,none⟩) MF.cls.length d10) hS ?_;refine tk 1 104 (.slice (some ⟨tb+2,0,none⟩) k k) hS ?_;refine tk 2 105 (.int .i64 c) hS ?_;refine tk 3 106 (.pointer (some ⟨tb+2,c,none⟩)) hS ?_ rfl yg;refine tk 4 107 (.int .i64 q) hS ?_ rfl (qi fun W' h=>by have q0:=hoc W' h;go_simp);refine tk 5 108 (.slice (some ⟨g,0,none⟩) MF.cls.length d10) hS ?_;refine tk 6 109 (.slice (some ⟨tb+2,0,none⟩) k k) hS ?_;refine tk 7 110 (.int .i64 c) hS ?_;refine tk 8 111 (.pointer (some ⟨tb+2,c,none⟩)) hS ?_ rfl yg;refine tk 9 112 (.int .i64 q) hS ?_ rfl (qi fun W' h=>by have q0:=hoc W' h;go_simp);refine tk 10 113 (.pointer (some ⟨g,q * 4,none⟩)) hS ?_ rfl yg;refine tk 11 114 (.agg (au x)) hS ?_ rfl (aA (f:=oV) (l:=aG x) ay (.tmp 113) rfl g (q * 4) rfl (fun W' h=>hat.below h hgl) rfl rfl);refine tk 12 115 (.int .i64 b) hS ?_;refine tk 13 116 (.int .u8 (b:Int)) hS ?_ rfl (yo fun w=>by go_simp;rw [Im];omega);refine iT 14 (fun K' hK=> ?_);refine adF (d:=117) (v:= .slice (some ⟨wc.drew.heap.size,0,none⟩) 1 1) (w':=wc.drew.alloc (.cells #[.int .u8 (b:Int)] 5)) rfl rfl (by go_simp) ?_
      have hRb:Row aV (wc.drew.alloc (.cells #[.int .u8 (b:Int)] 5)) wc.drew.heap.size 5 [UInt8.ofNat b]:=Row.new _ _ (by
       have e:aV (UInt8.ofNat b)= .int .u8 (b:Int):=by unfold aV;rw [Jc];congr 1;omega
       rw [← e];rfl)
      have iw:=(l9 hRb (af _) (by unfold maxLen;simp)).rd;have hS2:Below wc.heap.size wc (wc.drew.alloc (.cells #[.int .u8 (b:Int)] 5)):=hS.alloc hS.size _;refine hK.out _ _ hS2 fun _=> ?_;clear hK hRb hS;simp only [sA,sB,sC];generalize wc.drew.alloc (.cells #[.int .u8 (b:Int)] 5)=Wa at iw hS2 ⊢;refine iT 15 (fun K' hK=> ?_);refine cD 118 193 #[.slice (some ⟨wc.drew.heap.size,0,none⟩) 1 1] ?_;refine (afI Wa _ [UInt8.ofNat b] iw (by simp)).mono ?_;rintro e Wb ⟨rfl,hBb⟩;have dY:=hS2.trans (hBb.mono hS2.size);refine ⟨_,rfl,hK.out _ _ dY fun _=> ?_⟩;clear hK hBb hS2 iw
      have ha:fU [UInt8.ofNat b]=bV.add b:=by
       show bV.add (UInt8.ofNat b).toNat=_;rw [Jc,qcV (by omega)]
      rw [ha];clear ha;generalize bV.add b=y at *;simp only [sA,sB,sC];refine iT 16 (fun K' hK=> ?_);refine cD 119 57 #[.agg (au x), .agg (au y)] ?_;refine (II Wb x y).mono ?_;rintro e Wc ⟨rfl,jH⟩;have uH:=dY.trans (jH.mono dY.size);refine ⟨_,rfl,hK.out _ _ uH fun _=> ?_⟩;clear hK jH dY;simp only [sA,sB,sC];refine aL (by kernel_rfl) ?_;simp only [List.drop];have RG:=wS.under uH;clear hoc hat wS uH;generalize x.union y=z at *;have hKw:=RG.cls;go_step;go_step;go_step;refine jh (C:=au z) (enc:=aG) ay dX (.tmp 120) (.tmp 119) rfl rfl g MF.cls.length d10 q (q * 4) rfl rfl z rfl rfl hKw hqk ?_;intro W5 hK5 jk;have hgo:(Value.slice (some ⟨g,0,none⟩) MF.cls.length d10).ownBlock=some g:=rfl;have hgb:=(hKw.lt g hgo).1;have Gr:Hid (wU w W5 tb T ⟨.slice pn n kn,jC⟩ ⟨va,hva⟩ q9 d9 (some ⟨g,0,none⟩) d10 {MF with cls:=MF.cls.set q z}):=Lib.hid ⟨RG.cells.kept jk (fun k hk e=>hKw.type RG.cells (by decide) g hgo (e.trans hk.symm)),by show aP 4 aG W5 _ _ (.slice _ (MF.cls.set q z).length _) _;rw [qz];exact hK5,RG.of.grown jk (by simp;omega),RG.map.kept jk (by simp;omega),RG.rf.grown jk (fun b e=>by injection e with e;omega),aJ RG.sz jk.size⟩;clear hK5 jk RG hKw;go_wp2_with fail
      go_roundw
      case rel=>exact ⟨b+1,_,q9,d9,some ⟨g,0,none⟩,d10,by omega,by go_num,Sk,rfl,by rw [qz],Gr.out⟩
      case measure=>simp [intOf];omega
    ·obtain rfl:b=256:=by omega
     have HE:Hid (T.merge (block,az)=M):=HM;have HO:=Lib.hid (wS.cells.mono (by omega:tb≤tb+3));have HK:=Lib.hid (wS.cls.mono (by omega:tb≤tb+3));have HB:=Lib.hid wS.rf.fB;clear wS;go_wp2_with fail;go_ret2;refine ⟨p9,c9,sW,c10,?_,?_,?_,by rw [dx.out];exact HB.out⟩
     ·rw [HE.out];rfl
     ·rw [HE.out,dx.out];exact HO.out
     ·rw [HE.out,dx.out];exact HK.out
end
end Go.Proofs.YtncnfncglacheaaGreatDoor
