/- Part of a proof. -/
import Derived.Test.YtncnfncglacheaaGreatDoorFTbM
set_option linter.all false
set_option maxRecDepth 100000
set_option maxHeartbeats 64000000
namespace Go.Proofs.YtncnfncglacheaaGreatDoor
section
open Go Go.RowKit Mem
theorem mkKey (w:World) (c:Nat) (hc:c≤1000000):(Instr.makeSlice 22 (.int .i64 0) (.int .i64 (c:Int))).run Tryz.prog w= .ok (.slice (some ⟨w.heap.size,0,none⟩) 0 c) (w.alloc (.cells ((List.replicate c (0:UInt8)).map aV).toArray 5)):=by
 obtain ⟨i,z,hi,hz,hs,hb,_⟩:=xV.hi
 have hzz:z= .int .u8 0:=by
  have h:(Tryz.prog.info? 5).bind (·.zero)=some (.int .u8 0):=by kernel_rfl
  rw [hi] at h;exact dJ (hz.symm.trans h)
 have h:=run_make w 22 5 i z Tryz.underlying22 hi hz .i64 .i64 0 (c:Int) (by omega) (by omega) (by rw [hb];omega) (by omega);rw [Sw,hs,hzz,PE] at h;rw [h];show Result.ok _ (w.alloc (.cells (madeCells #[.int .u8 0] c) _))=_
 have e:madeCells #[.int .u8 0] c=((List.replicate c (0:UInt8)).map aV).toArray:=by
  apply ZF.1;rw [qcR,qdi];rfl
 rw [e];rfl
theorem Ku (w:World) (c:Nat) (hc:c≤1000000):Mem.Own aV (w.alloc (.cells ((List.replicate c (0:UInt8)).map aV).toArray 5)) w.heap.size 5 (.slice (some ⟨w.heap.size,0,none⟩) 0 c) []:=
 ⟨by simp, .inr ⟨w.heap.size,c,_,rfl,ah _,World.alloc_heap_new _ _,by simp,by unfold maxLen;omega,by simp,by simp⟩⟩
theorem Zi:(instBEqOfDecidableEq:BEq (List Nat))=(inferInstance:BEq (List Nat)):=by
 have h:∀a b:List Nat,(@BEq.beq _ instBEqOfDecidableEq a b)=(a==b):=fun a b=>by
  rw [AL];simp
 show BEq.mk _=_
 have e:(fun a b:List Nat=>decide (a=b))=fun a b=>(a==b):=by
  funext a b;exact h a b
 rw [e]
theorem Gb (l:List (List Nat)) (a:List Nat): @List.idxOf _ instBEqOfDecidableEq a l=l.idxOf a:=by rw [Zi]
theorem mJ {α:Type} {f:α→Value} {w:World} {b base:Nat} {t:TypeId} {l:List α} (h:Row f w b t l) (hb:base≤b) (hm:l.length≤maxLen):Mem.Own f w base t (.slice (some ⟨b,0,none⟩) l.length l.length) l:=
 ⟨by simp, .inr ⟨b,l.length,_,rfl,hb,h,ah _,hm,by simp,by rw [PE,qcV,qj (by simp)]⟩⟩
structure kN (w wr:World) (tb:Nat) (T:TB) (vn va:OC):Prop where
 tab:qP wr tb T vn va
 fH:Below tb w wr
 sz:tb+1≤wr.heap.size
section
variable {w wr w':World} {tb:Nat} {T:TB} {vn va:OC}
theorem kN.grown (h:kN w wr tb T vn va) {row:Option Nat} (hg:wr.grownBy w' row) (hr:∀b,row=some b→tb<b):kN w w' tb T vn va:=
 ⟨⟨h.tab.row.grown hg (fun e=>by have:=hr _ e.symm;omega),h.tab.cl⟩,h.fH.grown hg (by have:=h.sz;omega) (fun k e=>by have:=hr _ e;omega),aL h.sz hg.size⟩
theorem kN.alloc (h:kN w wr tb T vn va) (o:Obj):kN w (wr.alloc o) tb T vn va:=h.grown (TN wr o none) (fun _ e=>by cases e)
theorem kN.set (h:kN w wr tb T vn va) (b i:Nat) (v:Value) (hb:tb<b):kN w (wr.setCell ⟨b,i,none⟩ v) tb T vn va:=h.grown (aI wr b i v) (fun _ e=>by injection e with e;omega)
theorem kN.under (h:kN w wr tb T vn va) {B:Nat} (hb:Below B wr w') (hB:tb<B):kN w w' tb T vn va:=⟨⟨h.tab.row.below hb hB,h.tab.cl⟩,h.fH.trans (hb.mono (by omega)),aL h.sz hb.size⟩
theorem kN.below (h:kN w wr tb T vn va) (hb:Below wr.heap.size wr w'):kN w w' tb T vn va:=h.grown (Mem.bf hb none) (fun _ e=>by cases e)
end
theorem aaj (w:World) (C:Array Value) (T:TB) (hC:kL w C T) (hT:T.Ok) (vl:Value) (l:List Nat) (hl:Rd nV w vl l) (hL:mP T.nx.length l):
  Calls Tryz.prog 227 #[.agg C,vl] w fun e w'=>∃p1 c1 p2 c2,e= .returned (.tuple #[.slice p1 (T.refine l).1.length c1, .slice p2 (T.refine l).2.length c2])∧Mem.Own nV w' w.heap.size 3 (.slice p1 (T.refine l).1.length c1) (T.refine l).1∧Mem.Own nV w' w.heap.size 3 (.slice p2 (T.refine l).2.length c2) (T.refine l).2∧Below w.heap.size w w':=by
 obtain ⟨⟨vn,jL⟩,⟨va,hva⟩,lq,h1,h2,h3⟩:=hC;obtain ⟨pn,kn,rfl⟩:=h1.slice;obtain ⟨pa,ka,rfl⟩:=h2.slice;obtain ⟨pl,kl,rfl⟩:=hl.slice;have HN:=af h1;have HA:=af h2;have HLR:=af hl;have HT:=af hT;have HLO:=af hL;obtain ⟨n,Hn⟩:∃n,Hid (T.nx.length=n):=⟨_,af rfl⟩
 have xB:T.ac.length=n:=by rw [← Hn.out];exact hT.ac
 have g1:1≤n:=by rw [← Hn.out];exact hT.n1
 have g2:n≤65535:=by rw [← Hn.out];exact hT.nn
 have hln:=hL.len;obtain ⟨L,Iy⟩:∃n,Hid (l.length=n):=⟨_,af rfl⟩
 rw [Hn.out] at HN lq hln;rw [xB] at HA lq;rw [Iy.out] at HLR hln ⊢;have KD:Hid (∀x∈l,x<n):=af (by rw [← Hn.out];exact hL.lt);have HR:Hid (T.refine l=wO T.nx n l (L+1 - 0) (sO T.ac n l) 0):=af (by rw [← Hn.out,← Iy.out];rfl);have HAN:=af xB;clear h1 h2 hT hl hL xB;have hR0:kN w (w.alloc (.cells C 166)) w.heap.size T ⟨.slice pn n kn,jL⟩ ⟨.slice pa n ka,hva⟩:=⟨⟨Row.new _ _ (by rw [lq]),h3⟩,(au _ _).alloc (ah _) _,by simp⟩
 have hS0:(w.alloc (.cells C 166)).heap.size=w.heap.size+1:=bR _ _;clear lq;go_enter Tryz.func227,Tryz.ntmps227;go_upto_region 1 with (fail);obtain ⟨tb,dF⟩:∃tb,Hid (w.heap.size=tb):=⟨_,af rfl⟩
 generalize (w.alloc (.cells C 166))=W at hR0 hS0 ⊢;rw [dF.out] at hR0 hS0 ⊢;have sH:=hR0.tab.nx;obtain ⟨MB,nM⟩:∃C,Hid (C=((List.replicate n 0).map nV).toArray):=⟨_,af rfl⟩
 have hmk:∀w:World,(Instr.makeSlice 92 (.int .i64 (n:Int)) (.int .i64 (n:Int))).run Tryz.prog w= .ok (.slice (some ⟨w.heap.size,0,none⟩) n n) (w.alloc (.cells MB 3)):=fun w=>by rw [nM.out];exact tZ w n (by omega)
 have HMK:=af hmk;have hBl:Row nV (W.alloc (.cells MB 3)) W.heap.size 3 (List.replicate n 0):=by rw [nM.out];exact Row.new _ _ rfl
 have iJ:=hR0.alloc (.cells MB 3);rw [hS0] at hBl;go_upto_region 2 with (fail);generalize (W.alloc (.cells MB 3))=W1 at hBl iJ ⊢;clear hR0 hS0 sH hmk;clear W;go_wp2_with fail
 go_loopw [26] (fun U7 wr=>∃k:Nat,k≤L∧U7= .int .i64 k∧Row nV wr (tb+1) 3 ((l.take k).foldl (oG T.ac) (List.replicate n 0))∧kN w wr tb T ⟨.slice pn n kn,jL⟩ ⟨.slice pa n ka,hva⟩) (fun U7 _=>L - (intOf U7).toNat)
 case atStart=>exact ⟨0,by omega,rfl,hBl,iJ⟩
 case round=>
  clear hBl iJ;obtain ⟨k,hk,rfl,hBl,nI⟩:=hrel;by_cases hlt:k<L
  ·have hq:(k:Int)<(L:Int):=by omega
   have hkl:k<l.length:=by rw [Iy.out];exact hlt
   obtain ⟨lb,lo,rfl,hcl⟩:=iT HLR.out k hlt;have cl:=hcl wr (by rw [dF.out];exact nI.fH);have hs:l.getD k 0<n:=KD.out _ (aO _ _ _ hkl)
   have HST:Hid ((l.take (k+1)).foldl (oG T.ac) (List.replicate n 0)=oG T.ac ((l.take k).foldl (oG T.ac) (List.replicate n 0)) (l.getD k 0)):=af (by
    rw [dG _ _ _ _ hkl,dD,bM hkl];rfl)
   have hbl:=(zn T.ac n l k (by omega)).1;generalize l.getD k 0=s at *;generalize (l.take k).foldl (oG T.ac) (List.replicate n 0)=bl at *;obtain ⟨ab,ao,rfl,hca⟩:=uI HA.out s hs;have ca:=hca wr (by rw [dF.out];exact nI.fH);have Nz:=nI.tab.ac;have hsi:(s:Int)<(n:Int):=by omega
   clear hcl hca;cases hac:T.ac.getD s false with
   | false=>
    rw [hac] at ca;have HB1:Hid (bl=(l.take (k+1)).foldl (oG T.ac) (List.replicate n 0)):=af (by rw [HST.out,oG,hac];rfl);go_wp2_with fail
    go_roundw
    case rel=>exact ⟨k+1,by omega,by go_num,by rw [← HB1.out];exact hBl,nI⟩
    case measure=>simp [intOf];omega
   | true=>
    rw [hac] at ca;have HB1:Hid (bl.set s 1=(l.take (k+1)).foldl (oG T.ac) (List.replicate n 0)):=af (by rw [HST.out,oG,hac];rfl);have co:=fu hBl s (by rw [hbl];exact hs);have fo:=hBl.frozen s;have ag7:=hBl.set s 1;have Z6:=nI.set (tb+1) s (nV 1) (by omega);clear hBl nI;go_wp2_with fail
    go_roundw
    case rel=>exact ⟨k+1,by omega,by go_num,by rw [← HB1.out];exact ag7,Z6⟩
    case measure=>simp [intOf];omega
  ·obtain rfl:k=L:=by omega
   rw [qj (by rw [Iy.out];exact ah _)] at hBl
   have hb0:∀x∈sO T.ac n l,x<65536:=by
    have h:=(zn T.ac n l l.length (ah _)).2;rw [Qr] at h;intro x hx;have:=h x hx;omega
   have hb1:(sO T.ac n l).length=n:=by
    have h:=(zn T.ac n l l.length (ah _)).1;rw [Qr] at h;exact h
   have hmm:= @run_makeMap Tryz.prog;replace hBl:Row nV wr (tb+1) 3 (sO T.ac n l):=hBl;clear hk hlt;go_wp2_with fail
   go_loopw [6,9] (fun s6 s9 wr=>∃(bb c:Nat) (bl:List Nat),s6= .slice (some ⟨bb,0,none⟩) n n∧s9= .int .i64 c∧Row nV wr bb 3 bl∧tb<bb∧bl.length=n∧Hid (∀x∈bl,x<65536)∧c≤k∧Hid (T.refine l=wO T.nx n l (k+1 - c) bl c)∧Hid (∀i,i<c→∃s∈l,bl.getD s 0=i)∧kN w wr tb T ⟨.slice pn n kn,jL⟩ ⟨.slice pa n ka,hva⟩) (fun _ s9 _=>k+1 - (intOf s9).toNat)
   case atStart=>exact ⟨tb+1,0,_,rfl,rfl,hBl,by omega,hb1,af hb0,by omega,HR,af (fun i hi=>by omega),nI⟩
   case round=>
    clear hBl hb0 hb1 HR nI;obtain ⟨bb,c,bl,rfl,rfl,hBl,hbb,hbn,P7,hc,HR,HIT,nI⟩:=hrel;have HBN:=af hbn;have hbl:=hBl.lt;have hmp:fF PO Ap Tryz.prog 9 3 (wr.alloc (.map #[] 0)) wr.heap.size []:=fF.made wr;have acs:=hBl.alloc (.map #[] 0);have aaQ:=nI.alloc (.map #[] 0);have hS1:(wr.alloc (.map #[] 0)).heap.size=wr.heap.size+1:=bR _ _;go_upto_region 10 with (fail);have htm:=nI.sz;generalize hmb:wr.heap.size=mb at hmp hS1 hbl htm ⊢;generalize (wr.alloc (.map #[] 0))=W2 at hmp acs aaQ hS1 ⊢;clear hBl nI hmb;have hmk:=HMK.out;have AY:Row nV (W2.alloc (.cells MB 3)) W2.heap.size 3 (Ir n).cB:=by rw [nM.out];exact Row.new _ _ rfl
    have aac:=hmp.alloc (.cells MB 3);have aaw:=acs.alloc (.cells MB 3);have ab4:=aaQ.alloc (.cells MB 3);have eP:mb+2≤(W2.alloc (.cells MB 3)).heap.size:=by rw [bR];omega
    rw [hS1] at AY;go_upto_region 11 with (fail);clear hmk;generalize (W2.alloc (.cells MB 3))=W3 at AY aac aaw ab4 eP ⊢;clear hmp acs aaQ hS1;clear W2;have hO3:=Own.nil (f:=nV) W3 (mb+2) 3;have Jv:(l.take 0).foldl (xH T.nx bl) (Ir n)=Ir n:=rfl;go_wp2_with fail
    go_loopw [12,45] (fun s12 s45 wr=>∃(j:Nat) (st:RS) (pr:Option Addr) (kr:Nat),j≤k∧s45= .int .i64 j∧Hid ((l.take j).foldl (xH T.nx bl) (Ir n)=st)∧s12= .slice pr st.rs.length kr∧Mem.Own nV wr (mb+2) 3 (.slice pr st.rs.length kr) st.rs∧Row nV wr (mb+1) 3 st.cB∧fF PO Ap Tryz.prog 9 3 wr mb st.ks∧Row nV wr bb 3 bl∧kN w wr tb T ⟨.slice pn n kn,jL⟩ ⟨.slice pa n ka,hva⟩∧mb+2≤wr.heap.size) (fun _ s45 _=>k - (intOf s45).toNat)
    case atStart=>exact ⟨0,Ir n,none,0,by omega,rfl,af rfl,rfl,hO3,AY,aac,aaw,ab4,eP⟩
    case round=>
     clear hO3 AY aac aaw ab4 eP Jv hbn;obtain ⟨j,st,pr,kr,hj,rfl,HST,rfl,hO,AY,MP,hBl,nI,hS⟩:=hrel;have hok:=xk (nx:=T.nx) (bl:=bl) (n:=n) (l:=l) (by rw [← Hn.out];exact HLO.out) j (by rw [Iy.out];exact hj);rw [HST.out] at hok;have jQ:=af hok;clear hok;by_cases hlt:j<k
     ·have hq:(j:Int)<(k:Int):=by omega
      have hjl:j<l.length:=by rw [Iy.out];exact hlt
      obtain ⟨lb,lo,rfl,hcl⟩:=iT HLR.out j hlt;have cl:=hcl wr (by rw [dF.out];exact nI.fH);have hs:l.getD j 0<n:=KD.out _ (aO _ _ _ hjl)
      have HSN:Hid (l.getD j 0∉l.take j):=af (fun hm=>by
       obtain ⟨i,hi,e⟩:=qdd.1 hm
       rw [dD,bM hjl] at e
       have:=(List.getElem_inj (xs:=l) HLO.out.nd).1 e
       omega)
      have aeT:Hid ((l.take (j+1)).foldl (xH T.nx bl) (Ir n)=xH T.nx bl st (l.getD j 0)):=af (by
       rw [dG _ _ _ _ hjl,HST.out,dD,bM hjl];rfl)
      generalize l.getD j 0=s at *;have hsi:(s:Int)<(n:Int):=by omega
      have hW1:Below w.heap.size w wr:=by rw [dF.out];exact nI.fH
      obtain ⟨nb,no,rq,rd,rfl,hnn,hnb,hcr,hrow⟩:=sF HN.out s (by rw [Hn.out];exact hs);have cr:wr.cell? ⟨nb,no+s,none⟩=some (.slice rq (T.nx.getD s []).length rd):=(hW1.cell (p:=⟨nb,no+s,none⟩) hnb).trans hcr;have ZQ:Hid (∀X,Below w.heap.size w X→X.cell? ⟨nb,no+s,none⟩=some (.slice rq (T.nx.getD s []).length rd)):=af fun X hX=>(hX.cell (p:=⟨nb,no+s,none⟩) hnb).trans hcr;have Ld:=af hrow;have BS:Hid (∀t∈T.nx.getD s [],t<n):=af (uK (by rw [← Hn.out];exact HT.out.rb) _);have hrm:(T.nx.getD s []).length≤256:=by rw [HT.out.rw _ (aO _ _ _ (by rw [Hn.out];exact hs))];exact HT.out.mF
      have sH:=nI.tab.nx;obtain ⟨row,xU⟩:∃r,Hid (T.nx.getD s []=r):=⟨_,af rfl⟩
      rw [xU.out] at Ld BS hrm cr ZQ;obtain ⟨m,Hm⟩:∃m,Hid (row.length=m):=⟨_,af rfl⟩
      rw [Hm.out] at Ld hrm cr ZQ;obtain ⟨KB,hKB⟩:∃C,Hid (C=((List.replicate (2+2 * m) (0:UInt8)).map aV).toArray):=⟨_,af rfl⟩
      have hmk:∀w:World,(Instr.makeSlice 22 (.int .i64 0) (.int .i64 (2+2 * (m:Int)))).run Tryz.prog w= .ok (.slice (some ⟨w.heap.size,0,none⟩) 0 (2+2 * m)) (w.alloc (.cells KB 5)):=fun w=>by
       have h:=mkKey w (2+2 * m) (by omega);rw [hKB.out,← h];congr 2
      have Dk:Mem.Own aV (wr.alloc (.cells KB 5)) wr.heap.size 5 (.slice (some ⟨wr.heap.size,0,none⟩) 0 (2+2 * m)) []:=by rw [hKB.out];exact Ku wr (2+2 * m) (by omega)
      have hO4:=hO.alloc (.cells KB 5);have abF:=AY.alloc (.cells KB 5);have aa0:=MP.alloc (.cells KB 5);have R7:=hBl.alloc (.cells KB 5);have Rl:=nI.alloc (.cells KB 5);have vK:(wr.alloc (.cells KB 5)).heap.size=wr.heap.size+1:=bR _ _;have aau:=fun g hg=>(hO.lt g hg).2;have ad6:=MP.lt;clear hcl hW1 hcr hrow hnn;go_upto_region 16 with (fail);have hKs:mb+2≤wr.heap.size:=hS;generalize hkb:wr.heap.size=kb at Dk vK hKs aau ad6 ⊢;generalize (wr.alloc (.cells KB 5))=W4 at Dk hO4 abF aa0 R7 Rl vK ⊢;clear hO AY MP hBl nI hS hmk cl cr sH hkb;have hsb:s<bl.length:=by rw [HBN.out];exact hs
      have hb0:bl.getD s 0<65536:=P7.out _ (aO _ _ _ hsb);have c0:=fu R7 s hsb;have HKO:Hid (qY T.nx bl s=bl.getD s 0::row.map fun t=>bl.getD t 0):=af (by rw [← xU.out];rfl);generalize bl.getD s 0=b0 at *;have wG:kb≤W4.heap.size:=by omega
      have HS4:=af vK;clear vK;have Td:Hid (Value.int .u8 (IntKind.u8.wrap (b0:Int))=aV (UInt8.ofNat b0)):=af (by unfold aV;rw [Lg,G6];congr 1);have XM:Hid (Value.int .u8 (IntKind.u8.wrap ((b0:Int) / 256))=aV (UInt8.ofNat (b0 / 256))):=af (by unfold aV;rw [Lg,G6];congr 1);go_cut [15] (fun s15 wx=>∃pk ck,s15= .slice pk 2 ck∧Mem.Own aV wx kb 5 (.slice pk 2 ck) (enc2 [b0])∧Below kb W4 wx)
      ·go_wp2_with fail;go_region_law ((go_loud (refine tH (w:=W4) (f:=aV) (base:=kb) (l:=[]) (v:= .slice (some ⟨kb,0,none⟩) 0 (2+2 * m)) xV (.tmp 58) (.tmp 70) 22 ?_ ?_ rfl j4 ?_ Dk (UInt8.ofNat b0) (UInt8.ofNat (b0 / 256)) (.int .u8 (IntKind.u8.wrap (b0:Int))) (.int .u8 (IntKind.u8.wrap ((b0:Int) / 256))) Td.out XM.out 5 ?_ ?_ ?_ wG (enc2 [b0]) rfl ?_));rfl;rfl;rfl;rfl;simp;simp;intro p3 c3 w3 hO3 hG3 hW3)
       all_goals
        have hb3:Below kb W4 w3:=((au kb W4).alloc wG _).grown hG3 (by simp;omega) (fun q e=>by have e':some kb=some q:=e;cases e';omega);rw [nC] at hO3;go_wp2;go_meet;exact ⟨p3,c3,rfl,hO3,hb3⟩
      ·obtain ⟨pk,ck,rfl,xI,r9⟩:=hcut;clear Dk Td XM;have abu:=Rl.under r9 (by omega);have sH:=abu.tab.nx;have cr:=ZQ.out wc (by rw [dF.out];exact abu.fH);have hmi:(m:Int)≤256:=by omega
       go_wp2_with fail
       go_loopw [15,78] (fun s15 s78 wq=>∃(i:Nat) (pk:Option Addr) (ck:Nat),i≤m∧s78= .int .i64 i∧s15= .slice pk (2+2 * i) ck∧Mem.Own aV wq kb 5 (.slice pk (2+2 * i) ck) (enc2 (b0::(row.take i).map fun t=>bl.getD t 0))∧Below kb W4 wq) (fun _ s78 _=>m - (intOf s78).toNat)
       case atStart=>exact ⟨0,pk,ck,by omega,rfl,rfl,xI,r9⟩
       case round=>
        clear xI r9 abu sH cr;obtain ⟨i,pk,ck,him,rfl,rfl,xI,r9⟩:=hrel;by_cases hil:i<m
        ·have hq2:(i:Int)<(m:Int):=by omega
         obtain ⟨rb,ro,rfl,hct⟩:=iT Ld.out i hil;have Jy:=Rl.under r9 (by omega);have ct:=hct wr (by rw [dF.out];exact Jy.fH);have JQ:i<row.length:=by rw [Hm.out];exact hil
         have ht:row.getD i 0<n:=BS.out _ (aO _ _ _ JQ)
         have HTK:Hid ((row.take (i+1)).map (fun t=>bl.getD t 0)=(row.take i).map (fun t=>bl.getD t 0)++[bl.getD (row.getD i 0) 0]):=af (by
          have e:row.getD i 0=row[i]:=by rw [dD,bM JQ];rfl
          rw [AX JQ,xm,e];rfl)
         generalize row.getD i 0=t at *;have hti:(t:Int)<(n:Int):=by omega
         have htb:t<bl.length:=by rw [HBN.out];exact ht
         have hb1:bl.getD t 0<65536:=P7.out _ (aO _ _ _ htb);have J6:=R7.below r9 (by omega);have c1:=fu J6 t htb;generalize bl.getD t 0=b1 at *;obtain ⟨kk,HKK⟩:∃kk,Hid (b0::(row.take i).map (fun t=>bl.getD t 0)=kk):=⟨_,af rfl⟩
         have HK2:Hid (enc2 (b0::(row.take (i+1)).map fun t=>bl.getD t 0)=enc2 kk++[UInt8.ofNat b1,UInt8.ofNat (b1 / 256)]):=af (by
          rw [HTK.out,← HKK.out,← T9,Co];rfl)
         rw [HKK.out] at xI
         have Vp:Hid ((enc2 kk).length=2+2 * i):=af (by
          rw [nC,← HKK.out,nQ,fD,LV,Hm.out];omega)
         have WC:kb≤wr.heap.size:=aL wG r9.size;have Td:Hid (Value.int .u8 (IntKind.u8.wrap (b1:Int))=aV (UInt8.ofNat b1)):=af (by unfold aV;rw [Lg,G6];congr 1);have XM:Hid (Value.int .u8 (IntKind.u8.wrap ((b1:Int) / 256))=aV (UInt8.ofNat (b1 / 256))):=af (by unfold aV;rw [Lg,G6];congr 1);have hl1:((enc2 kk).length+2) * 1≤140737488355328:=by rw [Vp.out];omega
         obtain ⟨rr,TD⟩:∃rr,Hid (enc2 kk++[UInt8.ofNat b1,UInt8.ofNat (b1 / 256)]=rr):=⟨_,af rfl⟩
         clear hct Jy J6;go_wp2_with fail;go_region_law ((go_loud (refine tH (w:=wr) (f:=aV) (base:=kb) (l:=enc2 kk) (v:= .slice pk (2+2 * i) ck) xV (.tmp 82) (.tmp 94) 22 ?_ ?_ rfl j4 ?_ xI (UInt8.ofNat b1) (UInt8.ofNat (b1 / 256)) (.int .u8 (IntKind.u8.wrap (b1:Int))) (.int .u8 (IntKind.u8.wrap ((b1:Int) / 256))) Td.out XM.out 5 ?_ hl1 ?_ WC rr TD.out ?_));rfl;rfl;rfl;rfl;(rw [Vp.out];omega);intro p3 c3 w3 hO3 hG3 hW3)
         all_goals
          have hb3:Below kb W4 w3:=(r9.alloc WC _).grown hG3 (by simp;omega) (fun q e=>(xI.lt q e).1);have hl3:rr.length=2+2 * (i+1):=by rw [← TD.out,fq,Vp.out];simp;omega
          rw [hl3] at hO3;rw [← TD.out,← HK2.out] at hO3;rw [hl3];clear hl3 hl1 xI r9 hG3 hW3 c1;go_wp2
          go_roundw
          case rel=>exact ⟨i+1,p3,c3,by omega,by go_num,rfl,hO3,hb3⟩
          case measure=>simp [intOf];omega
        ·have hq2:¬(i:Int)<(m:Int):=by omega
         obtain rfl:i=m:=by omega
         have hki:(b0::(row.take i).map fun t=>bl.getD t 0)=qY T.nx bl s:=by
          rw [HKO.out,qj (by rw [Hm.out];exact ah _)]
         rw [hki] at xI
         have LF:Hid (PO (qY T.nx bl s)):=af (by
          rw [HKO.out]
          intro x hx
          rcases nA.1 hx with rfl | hx
          ·exact hb0
          ·obtain ⟨t,ht,rfl⟩:=wS.1 hx
           exact P7.out _ (aO _ _ _ (by rw [HBN.out];exact BS.out t ht)))
         have J5:Hid ((enc2 (qY T.nx bl s)).length≤1000):=af (by rw [nC,HKO.out,nQ,fD,Hm.out];omega);have aaJ:=aeT.out;unfold xH at aaJ;have Ez:=af aaJ;clear aaJ aeT hki;have Zp:=hO4.below r9 aau;have Nq:=abF.below r9 (by omega);have J6:=R7.below r9 (by omega);have Jy:=Rl.under r9 (by omega);have Ng:=aa0.block (r9.block mb ad6);have hSq:mb+2≤wr.heap.size:=aL hKs (aL wG r9.size);have hcv:=lT (P:=Tryz.prog) Tryz.underlying22 Tryz.underlying5 Tryz.underlying9 xI.rd;have Rv:=af xI.rd;clear hO4 abF R7 Rl aa0 r9 aau xI hKs wG c0 HKO ZQ Ld;obtain ⟨ky,Hky⟩:∃ky,Hid (qY T.nx bl s=ky):=⟨_,af rfl⟩
         rw [Hky.out] at hcv LF J5 Ez Rv;have qK:Hid (Go.keyOf Tryz.prog 9 (.string ⟨(enc2 ky).toArray⟩)=some (Ap ky)):=af (WideMaps.keyOf_string_mk Tryz.underlying9 (by have:=J5.out;unfold maxLen ByteArray.size;simp;omega));have hz:∀w:World,(zeroValue 3).run Tryz.prog w= .ok (.int .i64 0) w:=fun w=>by kernel_rfl
         have hsn:=HSN.out;have hnl:s<st.cB.length:=by rw [jQ.out.nl];exact hs
         have HLEN:=af jQ.out.len;have hle:=jQ.out.le;rw [LV,Iy.out] at hle;by_cases hm:ky∈st.ks
         ·rw [aC hm] at Ez;obtain ⟨q,Hq⟩:∃q,Hid (@List.idxOf _ instBEqOfDecidableEq ky st.ks=q):=⟨_,af rfl⟩
          rw [← Gb,Hq.out] at Ez;have HM:=af hm;clear hm;go_upto_region 27 with (at_lookup;(with_reducible refine oW Ng ?_ (.tmp 98) (.tmp 100) ?_ (Maps.string_keyed Tryz.underlying9) Tryz.underlying249 Tryz.underlying3 (hz _) ?_ ky LF.out HM.out q Hq.out _ ?_ qK.out ?_);rfl;rfl;rfl;rfl);have c3:=fu Nq s hnl;have f3:=Nq.frozen s;have hG:=aI wr (mb+1) s (.int .i64 (q:Int));have Lr:=Nq.set s q;have nW:=Zp.kept hG (fun g hg e=>by have:=(Zp.lt g hg).1;injection e with e;omega);have aav:=Ng.kept hG (by simp);have abb:=J6.grown hG (by simp;omega);have acM:=Jy.grown hG (fun b e=>by injection e with e;omega);have hS5:=aL hSq hG.size;replace Lr:Row nV (wr.setCell ⟨mb+1,s,none⟩ (.int .i64 (q:Int))) (mb+1) 3 (st.cB.set s q):=Lr;clear Zp Nq Ng J6 Jy hSq hG hcv;go_wp2_with fail
          go_roundw
          case rel=>exact ⟨j+1,_,pr,kr,by omega,by go_num,Ez,rfl,nW,Lr,aav,abb,acM,hS5⟩
          case measure=>simp [intOf];omega
         ·rw [aF hm] at Ez;have HM:=af hm;clear hm;go_upto_region 24 with (at_lookup;(with_reducible refine nL Ng ?_ (.tmp 98) (.tmp 100) ?_ (Maps.string_keyed Tryz.underlying9) Tryz.underlying249 Tryz.underlying3 (hz _) ?_ ky LF.out HM.out _ ?_ qK.out ?_);rfl;rfl;rfl;rfl);clear hcv;go_upto_region 25 with (fail);have hcv:=lT (P:=Tryz.prog) Tryz.underlying22 Tryz.underlying5 Tryz.underlying9 Rv.out;have hkl:st.ks.length<1000000000:=by rw [← HLEN.out];omega
          go_upto_region 26 with (at_mapUpdate;(with_reducible refine DK Ng ?_ (.tmp 108) (.tmp 110) (.tmp 111) ?_ (Maps.string_keyed Tryz.underlying9) Tryz.underlying249 Tryz.underlying3 Nt Nh ?_ ky LF.out HM.out hkl _ ?_ qK.out ?_ ?_);rfl;rfl;rfl;rfl;(exact congrArg (fun n:Nat=>Value.int .i64 (n:Int)) HLEN.out);(intro W7 uD gL));have xQ:=Zp.kept gL (fun g hg e=>by have:=(Zp.lt g hg).1;injection e with e;omega);have aeL:=Nq.grown gL (by simp);have aeq:=J6.grown gL (by simp;omega);have Sg:=Jy.grown gL (fun b e=>by injection e with e;omega);have tN:=aL hSq gL.size;have hrl:st.rs.length≤65535:=by omega
          clear Zp Nq Ng J6 Jy hSq gL hcv;go_upto_region 27 with (at_builtin;(with_reducible refine eG Fy (.tmp 112) (.tmp 114) ?_ ?_ uQ ?_ xQ s _ ?_ _ ?_ ?_ ?_ ?_ (st.rs++[s]) ?_ ?_);rfl;rfl;rfl;rfl;rfl;(omega);(omega);(exact tN);rfl;(intro p8 c8 W8 mQ jC iC));have hne:∀b,b<mb+2→some b≠(Value.slice pr st.rs.length kr).ownBlock:=fun b hb e=>by have:=(xQ.lt b e.symm).1;omega
          have VC:=(aeL.alloc (.cells #[.int .i64 (s:Int)] 3)).grown iC (hne _ (by omega));have RG:=(uD.alloc (.cells #[.int .i64 (s:Int)] 3)).kept iC (hne _ (by omega));have aeF:=(aeq.alloc (.cells #[.int .i64 (s:Int)] 3)).grown iC (hne _ (by omega));have Rn:=(Sg.alloc (.cells #[.int .i64 (s:Int)] 3)).grown iC (fun b e=>by have:=(xQ.lt b e).1;omega);have wY:=aL tN jC.size;clear xQ aeL uD aeq Sg tN jC iC hne;have c3:=fu VC s hnl;have f3:=VC.frozen s;have hG:=aI W8 (mb+1) s (.int .i64 (st.rs.length:Int));have Lr:=VC.set s st.ks.length;have nW:=mQ.kept hG (fun g hg e=>by have:=(mQ.lt g hg).1;injection e with e;omega);have aav:=RG.kept hG (by simp);have abb:=aeF.grown hG (by simp;omega);have acM:=Rn.grown hG (fun b e=>by injection e with e;omega);have hS5:=aL wY hG.size;replace Lr:Row nV (W8.setCell ⟨mb+1,s,none⟩ (.int .i64 (st.rs.length:Int))) (mb+1) 3 (st.cB.set s st.ks.length):=by rw [HLEN.out];exact Lr
          have hlr:(st.rs++[s]).length=st.rs.length+1:=by simp
          rw [hlr] at nW;have aet:Hid (Value.slice p8 (st.rs.length+1) c8= .slice p8 (st.rs++[s]).length c8):=af (by rw [hlr]);clear mQ VC RG aeF Rn wY hG hlr;go_wp2_with fail
          go_roundw
          case rel=>exact ⟨j+1,_,p8,c8,by omega,by go_num,Ez,aet.out,by rw [← aet.out];exact nW,Lr,aav,abb,acM,hS5⟩
          case measure=>simp [intOf];omega
     ·have hq:¬(j:Int)<(k:Int):=by omega
      have hjk:j=k:=by omega
      have hst:l9 T.nx bl n l=st:=by
       rw [← HST.out,hjk,qj (by rw [Iy.out];exact ah _)];rfl
      have Wu:=jQ.out;rw [hjk,qj (by rw [Iy.out];exact ah _)] at Wu;have ZJ:=af Wu;have hstep:=UQ (nx:=T.nx) (n:=n) (l:=l) (k+1) c bl (by omega);rw [hst] at hstep;have hgr:=oH (nx:=T.nx) (bl:=bl) (n:=n) (l:=l) (by rw [← Hn.out];exact HLO.out) HIT.out;rw [hst] at hgr;have hle:st.rs.length≤k:=by have:=ZJ.out.le;rw [Iy.out] at this;exact this
      have hnl:=ZJ.out.nl;by_cases hcn:st.rs.length=c
      ·rw [aC hcn,← HR.out] at hstep;have HE:=af hstep;have e1:((st.rs.length:Int)==(c:Int))=true:=by rw [EE];omega
       have hcn':(st.rs.length:Int)=(c:Int):=by omega
       have LF:=af (mJ (base:=tb) AY (by omega) (by rw [hnl];unfold maxLen;omega));have HBF:=af nI.fH;have HOR:=af (hO.mono (by omega:tb≤mb+2));clear hstep hst hgr Wu AY MP hBl nI hO;go_wp2_with fail;go_ret2;refine ⟨some ⟨mb+1,0,none⟩,n,pr,kr,?_,?_,?_,by rw [dF.out];exact HBF.out⟩
       ·rw [HE.out];show _=Ending.returned (.tuple #[.slice _ st.cB.length _, .slice _ st.rs.length _]);rw [hnl,hcn];rfl
       ·rw [HE.out,dF.out];have h:=LF.out;rw [hnl] at h;show Mem.Own nV _ _ _ (.slice _ st.cB.length _) st.cB;rw [hnl];exact h
       ·rw [HE.out,dF.out];exact HOR.out
      ·rw [aF hcn,← HR.out] at hstep
       have HE:Hid (T.refine l=wO T.nx n l (k+1 - st.rs.length) st.cB st.rs.length):=af (by
        rw [hstep]
        refine Ky (by rw [← Hn.out];exact HLO.out) _ _ _ _ (by rw [Iy.out];omega) (by rw [Iy.out];omega) ZJ.out.hit)
       have e1:((st.rs.length:Int)==(c:Int))=false:=by rw [qcW];omega
       have hcn':¬(st.rs.length:Int)=(c:Int):=by omega
       have HB2:Hid (∀x∈st.cB,x<65536):=af fun x hx=>by
        have h1:=ZJ.out.nb x hx;have h2:=ZJ.out.len;omega
       have hcl:c<st.rs.length:=by omega
       have ag1:=af ZJ.out.hit;have hrl:(st.rs.length:Int)≤65535:=by omega
       clear hstep hst hgr Wu MP hBl hO hcn;go_wp2_with fail
       go_roundw
       case rel=>exact ⟨mb+1,st.rs.length,st.cB,rfl,rfl,AY,by omega,hnl,HB2,hle,HE,ag1,nI⟩
       case measure=>simp [intOf];omega
end
section
open Go Go.RowKit Mem
theorem Uu:yM Tryz.prog 33 65 4 32:=yM.mk' (z:= .agg #[.int .u64 0, .int .u64 0, .int .u64 0, .int .u64 0]) Tryz.underlying33 (by kernel_rfl) rfl
theorem eH (c:Cl):(aJ c).length=4:=rfl
def zV (n:Int):Value:= .int .i64 n
theorem mZ {w:World} {b:Nat} {t:TypeId} {l:List Int} (h:Row zV w b t l) (k:Nat) (hk:k<l.length):w.cell? ⟨b,k,none⟩=some (.int .i64 (l.getD k 0)):=by
 rw [h.cell?,bM hk,dD,bM hk];rfl
structure xh (w wr:World) (tb:Nat) (T:TB) (vn va:OC) (p9:Option Addr) (c9:Nat) (tO:Option Addr) (c10:Nat) (M:MS):Prop where
 cells:Mem.Own nV wr (tb+3) 3 (.slice p9 M.cells.length c9) M.cells
 cls:aT 4 aJ wr (tb+3) 65 (.slice tO M.cls.length c10) M.cls
 of:Row zV wr (tb+2) 3 M.of
 map:fF PO Ap Tryz.prog 9 3 wr (tb+1) M.ks
 rf:kN w wr tb T vn va
 sz:tb+3≤wr.heap.size
section
variable {w wr w':World} {tb:Nat} {T:TB} {vn va:OC} {p9 tO:Option Addr} {c9 c10:Nat} {M:MS}
theorem xh.under (h:xh w wr tb T vn va p9 c9 tO c10 M) (hb:Below wr.heap.size wr w'):xh w w' tb T vn va p9 c9 tO c10 M:=
 ⟨h.cells.below' hb,h.cls.below' hb,h.of.below hb h.of.lt,h.map.below hb,h.rf.below hb,aL h.sz hb.size⟩
theorem xh.setOf (h:xh w wr tb T vn va p9 c9 tO c10 M) (c:Nat) (q:Int):xh w (wr.setCell ⟨tb+2,c,none⟩ (zV q)) tb T vn va p9 c9 tO c10 {M with of:=M.of.set c q}:=by
 have hG:=aI wr (tb+2) c (zV q);exact ⟨h.cells.kept hG (fun g hg e=>by have:=(h.cells.lt g hg).1;injection e with e;omega),h.cls.grown hG (fun g hg e=>by have:=(h.cls.lt g hg).1;injection e with e;omega),h.of.set c q,h.map.kept hG (by simp),h.rf.grown hG (fun b e=>by injection e with e;omega),aL h.sz hG.size⟩
theorem xh.up (h:xh w wr tb T vn va p9 c9 tO c10 M) {kb:Nat} (hk:wr.heap.size=kb) (hb:Below kb wr w'):xh w w' tb T vn va p9 c9 tO c10 M:=h.under (hk▸hb)
theorem xh.alloc (h:xh w wr tb T vn va p9 c9 tO c10 M) (o:Obj):xh w (wr.alloc o) tb T vn va p9 c9 tO c10 M:=h.under ((au _ _).alloc (ah _) _)
end
theorem gG {α:Type} {K:Nat} {enc:α→List OC} {w:World} {base:Nat} {e:TypeId} {p:Option Addr} {c:Nat} {l:List α} (hk:∀x,(enc x).length=K) (h:aT K enc w base e (.slice p l.length c) l) (i:Nat) (hi:i<l.length):∃g,p=some ⟨g,0,none⟩∧g<w.heap.size∧At oV w g (i * K) (enc l[i]):=by
 rcases h.2 with ⟨_,h0⟩ | ⟨g,cap,cur,he,hb,hg,hn,hm,hs,ht⟩
 ·omega
 ·injection he with he1 he2 GZ
  subst he1;refine ⟨g,rfl,(jg.1 hg).1,fun j hj=> ?_⟩
  have h1:((l.flatMap enc).map oV)[i * K+j]?=(enc l[i])[j]?.map oV:=by
   rw [jS,flat_get enc l (fun x _=>hk x) i hi j hj]
  have hlt:i * K+j<l.length * K:=by
   have:(i+1) * K≤l.length * K:=O7 K hi;rw [hk] at hj;rw [PU] at this;omega
  rw [← ht,tQ hlt] at h1;unfold World.cell?;rw [hg];show cur[i * K+j]?=_;rw [bM hj] at h1 ⊢;rw [← qdx,h1]
theorem aej {P:Program} {ops:Array Oper} {o:Oper} {a:Act} {w w':World} {K:Act→World→Prop} {Q:Exit→Act→World→Prop} {X:Prop} {v:Value} {d:Nat} (hd:o.dst=some d) (hw:Region.wanted o (yielded ops a.tmps)=true)
  (he:(execOp a.eval o).run P w= .ok (.value v) w')
  (h:K {a with tmps:=a.tmps.setIfInBounds d v} w'):if Region.wanted o (yielded ops a.tmps)=true then Oper.wp P o a w K Q else X:=by
 rw [aC hw];unfold Oper.wp;rw [he];show K (a.put o.dst _) _;rw [hd];exact h
theorem adr (w:World) (C:Array Value) (T:TB) (hC:kL w C T) (hT:T.Ok) (vb vr:Value) (block aG:List Nat) (l:List Nat) (hb:Rd nV w vb block) (hr:Rd nV w vr aG) (hL:mP T.nx.length l) (hB:Uo T.nx.length l (block,aG)):
  Calls Tryz.prog 229 #[.agg C,vb,vr] w fun e w'=>∃p1 c1 p2 c2,e= .returned (.tuple #[.slice p1 (T.merge (block,aG)).cells.length c1, .slice p2 (T.merge (block,aG)).cls.length c2])∧Mem.Own nV w' w.heap.size 3 (.slice p1 (T.merge (block,aG)).cells.length c1) (T.merge (block,aG)).cells∧aT 4 aJ w' w.heap.size 65 (.slice p2 (T.merge (block,aG)).cls.length c2) (T.merge (block,aG)).cls∧Below w.heap.size w w':=by
 obtain ⟨⟨vn,jL⟩,⟨va,hva⟩,lq,h1,h2,h3⟩:=hC;obtain ⟨pn,kn,rfl⟩:=h1.slice;obtain ⟨pb,kb,rfl⟩:=hb.slice;obtain ⟨pr,kr,rfl⟩:=hr.slice;have HN:=af h1;have Zv:=af hb;have HRR:=af hr;have HT:=af hT;have HBO:=af hB;obtain ⟨n,Hn⟩:∃n,Hid (T.nx.length=n):=⟨_,af rfl⟩
 have g1:1≤n:=by rw [← Hn.out];exact hT.n1
 have g2:n≤65535:=by rw [← Hn.out];exact hT.nn
 have hbl:block.length=n:=by rw [← Hn.out];exact hB.bl
 have hln:=hL.len;have hrl:=hB.rl;rw [Hn.out] at HN lq hln;obtain ⟨R,Fg⟩:∃n,Hid (aG.length=n):=⟨_,af rfl⟩
 have hRn:R≤65535:=by rw [← Fg.out];have h:=hB.rl;simp only at h;omega
 have GU:=af hbl;rw [hbl] at Zv ⊢;rw [Fg.out] at HRR ⊢;have hcc:T.cells≤256:=hT.mF;obtain ⟨cn,Yh⟩:∃n,Hid (T.cells=n):=⟨_,af rfl⟩
 rw [Yh.out] at hcc;have KD:Hid (∀x∈l,x<n):=af (by rw [← Hn.out];exact hL.lt);clear h1 h2 hb hr hT hB hL hbl hln hrl;have hR0:kN w (w.alloc (.cells C 166)) w.heap.size T ⟨.slice pn n kn,jL⟩ ⟨va,hva⟩:=⟨⟨Row.new _ _ (by rw [lq]),h3⟩,(au _ _).alloc (ah _) _,by simp⟩
 have hS0:(w.alloc (.cells C 166)).heap.size=w.heap.size+1:=bR _ _;clear lq;go_enter Tryz.func229,Tryz.ntmps229;have hmm:= @run_makeMap Tryz.prog;go_upto_region 1 with (fail);obtain ⟨tb,dF⟩:∃tb,Hid (w.heap.size=tb):=⟨_,af rfl⟩
 generalize (w.alloc (.cells C 166))=W at hR0 hS0 ⊢;rw [dF.out] at hR0 hS0 ⊢;have hmp:fF PO Ap Tryz.prog 9 3 (W.alloc (.map #[] 0)) W.heap.size []:=fF.made W;have iJ:=hR0.alloc (.map #[] 0);have hS1:(W.alloc (.map #[] 0)).heap.size=tb+2:=by rw [bR,hS0]
 rw [hS0] at hmp;go_upto_region 4 with (fail);generalize (W.alloc (.map #[] 0))=W1 at hmp iJ hS1 ⊢;clear hR0 hS0;clear W;have mF:=iJ.tab.cells;rw [Yh.out] at mF;obtain ⟨MB,nM⟩:∃C,Hid (C=((List.replicate cn 0).map nV).toArray):=⟨_,af rfl⟩
 have hmk:∀w:World,(Instr.makeSlice 92 (.int .i64 (cn:Int)) (.int .i64 (cn:Int))).run Tryz.prog w= .ok (.slice (some ⟨w.heap.size,0,none⟩) cn cn) (w.alloc (.cells MB 3)):=fun w=>by rw [nM.out];exact tZ w cn (by omega)
 have G7:Row zV (W1.alloc (.cells MB 3)) W1.heap.size 3 (List.replicate cn 0):=by
  rw [nM.out];refine Row.new _ _ ?_;simp [nV,zV]
 have hR2:=iJ.alloc (.cells MB 3);have acN:=hmp.alloc (.cells MB 3);have hS2:(W1.alloc (.cells MB 3)).heap.size=tb+3:=by rw [bR,hS1]
 rw [hS1] at G7;go_upto_region 5 with (fail);generalize (W1.alloc (.cells MB 3))=W2 at G7 hR2 acN hS2 ⊢;clear hmp iJ hS1 mF hmk nM;clear W1 MB;go_wp2_with fail
 go_loopw [27] (fun TA wr=>∃k:Nat,k≤cn∧TA= .int .i64 k∧Row zV wr (tb+2) 3 (List.replicate k (-1)++List.replicate (cn - k) 0)∧fF PO Ap Tryz.prog 9 3 wr (tb+1) []∧kN w wr tb T ⟨.slice pn n kn,jL⟩ ⟨va,hva⟩∧tb+3≤wr.heap.size) (fun TA _=>cn - (intOf TA).toNat)
 case atStart=>exact ⟨0,by omega,rfl,by simpa using G7,acN,hR2,by omega⟩
 case round=>
  clear G7 acN hR2 hS2;obtain ⟨k,hk,rfl,G7,MP,nI,hS⟩:=hrel;by_cases hlt:k<cn
  ·have hq:(k:Int)<(cn:Int):=by omega
   have hlen:(List.replicate k (-1:Int)++List.replicate (cn - k) 0).length=cn:=by simp;omega
   have co:=mZ G7 k (by rw [hlen];exact hlt);have fo:=G7.frozen k;have aeY:=G7.set k (-1)
   have hset:(List.replicate k (-1:Int)++List.replicate (cn - k) 0).set k (-1)=List.replicate (k+1) (-1)++List.replicate (cn - (k+1)) 0:=by
    rw [show cn - k=(cn - (k+1))+1 by omega,qc0 (n:=cn - (k+1)),H9 _ _ (by simp),Tw,Fu,yh,qcS (n:=k),ze];rfl
   rw [hset] at aeY;have hG:=aI wr (tb+2) k (zV (-1));have agt:=MP.kept hG (by simp);have Z6:=nI.grown hG (fun b e=>by injection e with e;omega);have hS':=aL hS hG.size;clear G7 MP nI hS hG hset hlen;go_wp2_with fail
   go_roundw
   case rel=>exact ⟨k+1,by omega,by go_num,aeY,agt,Z6,hS'⟩
   case measure=>simp [intOf];omega
  ·obtain rfl:k=cn:=by omega
   rw [Fu,qcH,Cm] at G7;have xA:xh w wr tb T ⟨.slice pn n kn,jL⟩ ⟨va,hva⟩ none 0 none 0 (iK T block aG 0):=⟨Own.nil _ _ _,aT.nil _ _ _,by rw [show (iK T block aG 0).of=List.replicate T.cells (-1) from rfl,Yh.out];exact G7,MP,nI,hS⟩
   clear G7 MP nI hS;go_wp2_with fail
   go_loopw [9,10,34] (fun s9 s10 s34 wr=>∃(b:Nat) (M:MS) (p9:Option Addr) (c9:Nat) (tO:Option Addr) (c10:Nat),b≤256∧s34= .int .i64 b∧Hid (iK T block aG b=M)∧s9= .slice p9 M.cells.length c9∧s10= .slice tO M.cls.length c10∧xh w wr tb T ⟨.slice pn n kn,jL⟩ ⟨va,hva⟩ p9 c9 tO c10 M) (fun _ _ s34 _=>256 - (intOf s34).toNat)
   case atStart=>exact ⟨0,_,none,0,none,0,by omega,rfl,af rfl,rfl,rfl,xA⟩
   case round=>
    clear xA hk hlt;obtain ⟨b,M,p9,c9,tO,c10,hb,rfl,HM,rfl,rfl,xA⟩:=hrel;have hok:=mD HT.out block aG b (by omega);rw [HM.out,Yh.out] at hok;have jQ:=af hok;clear hok;by_cases hlt:b<256
    ·have hq:(b:Int)<256:=by omega
     have cc:=xA.rf.tab.c b hlt;have hck:T.cell.getD b 0<k:=by rw [← Yh.out];exact kZ HT.out b hlt
     have HM1:Hid (iK T block aG (b+1)=ym (jT T.nx block aG M (T.cell.getD b 0)) (T.cell.getD b 0) b):=af (by rw [iK,HM.out]);generalize T.cell.getD b 0=c at *;have hco:c<M.of.length:=by rw [jQ.out.ol];exact hck
     have co:=mZ xA.of c hco;have hci:(c:Int)<(k:Int):=by omega
     have TC:=zO jQ.out T.nx block aG hck;have TC:=af TC;obtain ⟨oc,Hoc⟩:∃oc,Hid (M.of.getD c 0=oc):=⟨_,af rfl⟩
     rw [Hoc.out] at co;obtain ⟨MF,HMF⟩:∃MF,Hid (jT T.nx block aG M c=MF):=⟨_,af rfl⟩
     rw [HMF.out] at TC HM1;go_upto_if 45 with (fail);go_cut [9,10] (fun s9 s10 wx=>∃(p9:Option Addr) (c9:Nat) (tO:Option Addr) (c10:Nat),s9= .slice p9 MF.cells.length c9∧s10= .slice tO MF.cls.length c10∧xh w wx tb T ⟨.slice pn n kn,jL⟩ ⟨va,hva⟩ p9 c9 tO c10 MF)
     ·by_cases hneg:oc<0
      ·have y9:=HMF.out;rw [jT,Hoc.out,aC hneg] at y9;have Rh:=af y9;clear y9;obtain ⟨KB,hKB⟩:∃C,Hid (C=((List.replicate (2 * R) (0:UInt8)).map aV).toArray):=⟨_,af rfl⟩
       have hmk:∀w:World,(Instr.makeSlice 22 (.int .i64 0) (.int .i64 (2 * (R:Int)))).run Tryz.prog w= .ok (.slice (some ⟨w.heap.size,0,none⟩) 0 (2 * R)) (w.alloc (.cells KB 5)):=fun w=>by
        have h:=mkKey w (2 * R) (by omega);rw [hKB.out,← h];congr 2
       have Dk:Mem.Own aV (wr.alloc (.cells KB 5)) wr.heap.size 5 (.slice (some ⟨wr.heap.size,0,none⟩) 0 (2 * R)) []:=by rw [hKB.out];exact Ku wr (2 * R) (by omega)
       have hB4:Below wr.heap.size wr (wr.alloc (.cells KB 5)):=(au _ _).alloc (ah _) _;have hKs:=xA.sz;go_upto_region 16 with (fail);obtain ⟨kb,wN⟩:∃kb,Hid (wr.heap.size=kb):=⟨_,af rfl⟩
       rw [wN.out] at Dk hB4 hKs ⊢;generalize (wr.alloc (.cells KB 5))=W4 at Dk hB4 ⊢;have HMg:=af xA;clear hmk co cc xA;generalize wr=w1 at HMg wN hB4 ⊢;generalize Value.bool (decide (oc<0))=ob;go_wp2_with fail
       go_loopw [15,52] (fun s15 s52 wq=>∃(i:Nat) (pk:Option Addr) (ck:Nat),i≤R∧s52= .int .i64 i∧s15= .slice pk (2 * i) ck∧Mem.Own aV wq kb 5 (.slice pk (2 * i) ck) (enc2 ((aG.take i).map fun s=>jM T.nx block s c))∧Below kb w1 wq) (fun _ s52 _=>R - (intOf s52).toNat)
       case atStart=>exact ⟨0,_,_,by omega,rfl,rfl,Dk,hB4⟩
       case round=>
        clear Dk hB4;obtain ⟨i,pk,ck,hi,rfl,rfl,xI,r9⟩:=hrel;by_cases hil:i<R
        ·have hq2:(i:Int)<(R:Int):=by omega
         obtain ⟨rb,ro,rfl,hcs⟩:=iT HRR.out i hil;have rW:=HMg.out.up wN.out r9;have cs:=hcs wr (by rw [dF.out];exact rW.rf.fH);have JQ:i<aG.length:=by rw [Fg.out];exact hil
         have hs:aG.getD i 0<n:=KD.out _ (HBO.out.rm _ (aO _ _ _ JQ))
         have HTK:Hid ((aG.take (i+1)).map (fun s=>jM T.nx block s c)=(aG.take i).map (fun s=>jM T.nx block s c)++[jM T.nx block (aG.getD i 0) c]):=af (by
          have e:aG.getD i 0=aG[i]:=by rw [dD,bM JQ];rfl
          rw [AX JQ,xm,e];rfl)
         generalize aG.getD i 0=s at *;have hsi:(s:Int)<(n:Int):=by omega
         have hW1:Below w.heap.size w wr:=by rw [dF.out];exact rW.rf.fH
         obtain ⟨nb,no,rq,rd,rfl,hnn,hnb,hcr,hrow⟩:=sF HN.out s (by rw [Hn.out];exact hs);have cr:wr.cell? ⟨nb,no+s,none⟩=some (.slice rq (T.nx.getD s []).length rd):=(hW1.cell (p:=⟨nb,no+s,none⟩) hnb).trans hcr;have hrl:(T.nx.getD s []).length=k:=by rw [HT.out.rw _ (aO _ _ _ (by rw [Hn.out];exact hs)),Yh.out]
         have BS:Hid (∀t∈T.nx.getD s [],t<n):=af (uK (by rw [← Hn.out];exact HT.out.rb) _);have Nz:=rW.rf.tab.nx;have uR:Hid (jM T.nx block s c=block.getD ((T.nx.getD s []).getD c 0) 0):=af rfl;obtain ⟨row,xU⟩:∃r,Hid (T.nx.getD s []=r):=⟨_,af rfl⟩
         rw [xU.out] at hrow BS hrl cr uR;have Hrl:=af hrl;rw [hrl] at hrow cr;clear hrl;obtain ⟨Xv,ZA,rfl,hct⟩:=iT hrow c hck;have ct:=hct wr hW1;have ht:row.getD c 0<n:=BS.out _ (aO _ _ _ (by rw [Hrl.out];exact hck));generalize row.getD c 0=t at *;have hti:(t:Int)<(n:Int):=by omega
         obtain ⟨bb,bo,rfl,hcb⟩:=iT Zv.out t ht;have cb:=hcb wr hW1
         have hb1:block.getD t 0<65536:=by
          have:=HBO.out.bb _ (aO block t 0 (by rw [GU.out];exact ht));have h2:=Fg.out;simp only at this;omega
         rw [uR.out] at HTK;generalize block.getD t 0=b1 at *;obtain ⟨kk,HKK⟩:∃kk,Hid ((aG.take i).map (fun s=>jM T.nx block s c)=kk):=⟨_,af rfl⟩
         have HK2:Hid (enc2 ((aG.take (i+1)).map fun s=>jM T.nx block s c)=enc2 kk++[UInt8.ofNat b1,UInt8.ofNat (b1 / 256)]):=af (by
          rw [HTK.out,← HKK.out,Co];rfl)
         rw [HKK.out] at xI
         have Vp:Hid ((enc2 kk).length=2 * i):=af (by
          rw [nC,← HKK.out,fD,LV,Fg.out];omega)
         have WC:kb≤wr.heap.size:=by rw [← wN.out];exact r9.size
         have Td:Hid (Value.int .u8 ((b1:Int) % 256)=aV (UInt8.ofNat b1)):=af (by unfold aV;rw [Lg];congr 1);have XM:Hid (Value.int .u8 ((b1:Int) / 256)=aV (UInt8.ofNat (b1 / 256))):=af (by unfold aV;rw [Lg];congr 1;omega);have hl1:((enc2 kk).length+2) * 1≤140737488355328:=by rw [Vp.out];omega
         have hl2:(enc2 kk).length+2≤140737488355328:=by rw [Vp.out];omega
         have hl1:=af hl1;have hl2:=af hl2;obtain ⟨rr,TD⟩:∃rr,Hid (enc2 kk++[UInt8.ofNat b1,UInt8.ofNat (b1 / 256)]=rr):=⟨_,af rfl⟩
         clear hcs hct hcb hnn hcr hrow rW hW1;go_upto_region 21 with (at_builtin;go_loud (with_reducible refine Pj xV (.tmp 67) (.tmp 73) ?_ ?_ j4 ?_ xI (UInt8.ofNat b1) (UInt8.ofNat (b1 / 256)) (.int .u8 ((b1:Int) % 256)) (.int .u8 ((b1:Int) / 256)) Td.out XM.out 5 ?_ hl1.out hl2.out WC rr TD.out ?_);rfl;rfl;rfl;rfl;(intro p3 c3 w3 hO3 hB3 hG3));have hb3:=r9.trans hB3;have hl3:rr.length=2 * (i+1):=by rw [← TD.out,fq,Vp.out];simp;omega
         rw [hl3] at hO3;rw [← TD.out,← HK2.out] at hO3;rw [hl3];clear hl3 hl1 hl2 xI r9 hG3 hB3 Nz ct cb cr cs;go_wp2_with fail
         go_roundw
         case rel=>exact ⟨i+1,p3,c3,by omega,by go_num,rfl,hO3,hb3⟩
         case measure=>simp [intOf];omega
        ·obtain rfl:i=R:=by omega
         have hki:(aG.take i).map (fun s=>jM T.nx block s c)=ug T.nx block aG c:=by
          rw [qj (by rw [Fg.out];exact ah _)];rfl
         rw [hki] at xI
         have LF:Hid (PO (ug T.nx block aG c)):=af (by
          intro x hx
          obtain ⟨s,hs,rfl⟩:=wS.1 hx
          by_cases h:(T.nx.getD s []).getD c 0<block.length
          ·have:=HBO.out.bb _ (aO block _ 0 h)
           have h2:=Fg.out
           simp only at this
           show block.getD _ 0<_
           omega
          ·show block.getD _ 0<_
           rw [dD,qX (by omega)]
           show 0<65536
           omega)
         have J5:Hid ((enc2 (ug T.nx block aG c)).length≤200000):=af (by rw [nC,ug,fD,Fg.out];omega);have rW:=HMg.out.up wN.out r9;have hcv:=lT (P:=Tryz.prog) Tryz.underlying22 Tryz.underlying5 Tryz.underlying9 xI.rd;have Rv:=af xI.rd;obtain ⟨ky,Hky⟩:∃ky,Hid (ug T.nx block aG c=ky):=⟨_,af rfl⟩
         rw [Hky.out] at hcv LF J5 Rh Rv;have qK:Hid (Go.keyOf Tryz.prog 9 (.string ⟨(enc2 ky).toArray⟩)=some (Ap ky)):=af (WideMaps.keyOf_string_mk Tryz.underlying9 (by have:=J5.out;unfold maxLen ByteArray.size;simp;omega));have hz:∀w:World,(zeroValue 3).run Tryz.prog w= .ok (.int .i64 0) w:=fun w=>by kernel_rfl
         clear HMg wN r9 xI hki;by_cases hm:ky∈M.ks
         ·have y9:=Rh.out;rw [aC hm] at y9;obtain ⟨q,Hq⟩:∃q,Hid (@List.idxOf _ instBEqOfDecidableEq ky M.ks=q):=⟨_,af rfl⟩
          rw [← Gb,Hq.out] at y9;have JG:=af y9;have UZ:=af hm;clear hm Rh y9;have hmp:=rW.map;go_upto_region 28 with (at_lookup;(with_reducible refine oW hmp ?_ (.tmp 77) (.tmp 79) ?_ (Maps.string_keyed Tryz.underlying9) Tryz.underlying249 Tryz.underlying3 (hz _) ?_ ky LF.out UZ.out q Hq.out _ ?_ qK.out ?_);rfl;rfl;rfl;rfl);have c3:=mZ rW.of c hco;have f3:=rW.of.frozen c;have Iw:=rW.setOf c (q:Int);have hM6:Hid (xh w (wr.setCell ⟨tb+2,c,none⟩ (.int .i64 (q:Int))) tb T ⟨.slice pn n kn,jL⟩ ⟨va,hva⟩ p9 c9 tO c10 {M with of:=M.of.set c (q:Int)}):=af Iw;clear rW hcv hmp Iw;go_wp2_with fail;go_meet;exact ⟨p9,c9,tO,c10,by rw [← JG.out],by rw [← JG.out],by rw [← JG.out];exact hM6.out⟩
         ·have y9:=Rh.out;rw [aF hm] at y9;have JG:=af y9;have UZ:=af hm;clear hm Rh y9;have hmp:=rW.map;go_upto_region 24 with (at_lookup;(with_reducible refine nL hmp ?_ (.tmp 77) (.tmp 79) ?_ (Maps.string_keyed Tryz.underlying9) Tryz.underlying249 Tryz.underlying3 (hz _) ?_ ky LF.out UZ.out _ ?_ qK.out ?_);rfl;rfl;rfl;rfl);clear hcv;go_upto_region 25 with (fail);have hcv:=lT (P:=Tryz.prog) Tryz.underlying22 Tryz.underlying5 Tryz.underlying9 Rv.out;have HLEN:=af jQ.out.cl;have ag2:=af jQ.out.cc;have hle:=jQ.out.le;have hkl:M.ks.length<1000000000:=by omega
          go_upto_region 26 with (at_mapUpdate;(with_reducible refine DK hmp ?_ (.tmp 87) (.tmp 89) (.tmp 90) ?_ (Maps.string_keyed Tryz.underlying9) Tryz.underlying249 Tryz.underlying3 Nt Nh ?_ ky LF.out UZ.out hkl _ ?_ qK.out ?_ ?_);rfl;rfl;rfl;rfl;(exact congrArg (fun n:Nat=>Value.int .i64 (n:Int)) HLEN.out);(intro W7 uD gL));have xQ:=rW.cells.kept gL (fun g hg e=>by have:=(rW.cells.lt g hg).1;injection e with e;omega);have YL:=rW.cls.grown gL (fun g hg e=>by have:=(rW.cls.lt g hg).1;injection e with e;omega);have hF7:=rW.of.grown gL (by simp);have Sg:=rW.rf.grown gL (fun b e=>by injection e with e;omega);have tN:=aL rW.sz gL.size;have hn7:M.cells.length≤256:=by rw [HLEN.out];omega
          have hc7:M.cls.length≤256:=by rw [ag2.out];omega
          clear rW hmp gL hcv;go_upto_region 27 with (at_builtin;(with_reducible refine eG Fy (.tmp 91) (.tmp 93) ?_ ?_ uQ ?_ xQ c _ ?_ _ ?_ ?_ ?_ ?_ (M.cells++[c]) ?_ ?_);rfl;rfl;rfl;rfl;rfl;(omega);(omega);(exact tN);rfl;(intro p8 c8 W8 mQ jC iC));have hne:∀b,b<tb+3→some b≠(Value.slice p9 M.cells.length c9).ownBlock:=fun b hb e=>by have:=(xQ.lt b e.symm).1;omega
          have hF8:=(hF7.alloc (.cells #[.int .i64 (c:Int)] 3)).grown iC (hne _ (by omega));have RG:=(uD.alloc (.cells #[.int .i64 (c:Int)] 3)).kept iC (hne _ (by omega));have Rn:=(Sg.alloc (.cells #[.int .i64 (c:Int)] 3)).grown iC (fun b e=>by have:=(xQ.lt b e).1;omega);have L6:=(YL.grown (TN W7 (.cells #[.int .i64 (c:Int)] 3) none) (fun _ _=>by simp)).grown iC (YL.type xQ (by decide));have wY:=aL tN jC.size;clear hne xQ hF7 uD Sg YL tN iC jC;go_upto_region 28 with (at_builtin;(with_reducible refine oF Uu (by decide) eH (.tmp 95) (.tmp 97) ?_ ?_ ?_ L6 bS _ ?_ _ ?_ ?_ ?_ ?_ (M.cls++[bS]) rfl ?_);rfl;rfl;rfl;rfl;rfl;(omega);(omega);(exact wY);(intro p11 c11 W9 Qz G8 dB));have aeN:=fun g hg e=>(L6.type mQ (by decide)) g e (Eq.symm hg);have hne:∀b,b<tb+3→some b≠(Value.slice tO M.cls.length c10).ownBlock:=fun b hb e=>by have:=(L6.lt b e.symm).1;omega
          have DY:=(mQ.alloc _).kept dB aeN;have hF9:=(hF8.alloc _).grown dB (hne _ (by omega));have adY:=(RG.alloc _).kept dB (hne _ (by omega));have aef:=(Rn.alloc _).grown dB (fun b e=>by have:=(L6.lt b e).1;omega);have Mf:=aL wY G8.size;have hM9:xh w W9 tb T ⟨.slice pn n kn,jL⟩ ⟨va,hva⟩ p8 c8 p11 c11 ⟨M.ks++[ky],M.cells++[c],M.cls++[bS],M.of⟩:=⟨DY,Qz,hF9,adY,aef,Mf⟩
          clear aeN hne mQ hF8 RG Rn L6 wY dB G8 DY hF9 adY aef Mf Qz;have c3:=mZ hM9.of c hco;have f3:=hM9.of.frozen c;have hM6:Hid (xh w (W9.setCell ⟨tb+2,c,none⟩ (.int .i64 (M.cells.length:Int))) tb T ⟨.slice pn n kn,jL⟩ ⟨va,hva⟩ p8 c8 p11 c11 MF):=af (by rw [← JG.out,HLEN.out];exact hM9.setOf c _);clear hM9;go_wp2_with fail;go_meet;exact ⟨p8,c8,p11,c11,by rw [← JG.out];simp,by rw [← JG.out];simp,hM6.out⟩
      ·have y9:M=MF:=by rw [← HMF.out,jT,Hoc.out,aF hneg]
       subst y9;go_wp2_with fail;go_meet;exact ⟨p9,c9,tO,c10,rfl,rfl,xA⟩
     ·obtain ⟨q9,d9,q10,d10,rfl,rfl,xA⟩:=hcut;have hmo:=TC.out.1;obtain ⟨q,Hq⟩:∃q:Nat,Hid (MF.of.getD c 0=(q:Int)):=⟨_,af (qcZ TC.out.2).symm⟩
      have hcm:c<MF.of.length:=by rw [hmo.ol];exact hck
      have hqk:q<MF.cls.length:=by
       have h:=hmo.ob _ (aO _ _ 0 hcm);rw [Hq.out] at h;rw [hmo.cc];omega
      have hqi:(q:Int)<(MF.cls.length:Int):=by omega
      have ahh:MF.cls.length≤256:=by rw [hmo.cc];have:=hmo.le;omega
      obtain ⟨g,rfl,hgl,hat⟩:=gG eH xA.cls q hqk;have co2:=mZ xA.of c hcm;rw [Hq.out] at co2;have hof:=xA.of.lt;have hoc:∀X,Below wc.heap.size wc X→X.cell? ⟨tb+2,c,none⟩=some (.int .i64 (q:Int)):=fun X hX=>(hX.cell (p:=⟨tb+2,c,none⟩) hof).trans co2
      have UZ:Hid (iK T block aG (b+1)={MF with cls:=MF.cls.set q (MF.cls[q].union (bS.add b))}):=af (by
       rw [HM1.out,ym,Hq.out,Sw,dD,bM hqk];rfl)
      have HLK:Hid (MF.cls.length=MF.ks.length):=af hmo.cc;generalize MF.cls[q]=x at hat UZ;clear hmo co2;go_upto_region 29 with (fail);go_wp2_with fail;refine aH (S:=fun X=>Below wc.heap.size wc X) 17 rfl (by kernel_rfl) (au _ _).drew fun hS=> ?_;refine tk 0 103 (.slice (some ⟨g,0,none⟩) MF.cls.length d10) hS ?_;refine tk 1 104 (.slice (some ⟨tb+2,0,none⟩) k k) hS ?_;refine tk 2 105 (.int .i64 c) hS ?_;refine tk 3 106 (.pointer (some ⟨tb+2,c,none⟩)) hS ?_ rfl yg;refine tk 4 107 (.int .i64 q) hS ?_ rfl (qi fun W' h=>by have q0:=hoc W' h;go_simp);refine tk 5 108 (.slice (some ⟨g,0,none⟩) MF.cls.length d10) hS ?_;refine tk 6 109 (.slice (some ⟨tb+2,0,none⟩) k k) hS ?_;refine tk 7 110 (.int .i64 c) hS ?_;refine tk 8 111 (.pointer (some ⟨tb+2,c,none⟩)) hS ?_ rfl yg;refine tk 9 112 (.int .i64 q) hS ?_ rfl (qi fun W' h=>by have q0:=hoc W' h;go_simp);refine tk 10 113 (.pointer (some ⟨g,q * 4,none⟩)) hS ?_ rfl yg;refine tk 11 114 (.agg (ax x)) hS ?_ rfl (aA (f:=oV) (l:=aJ x) ay (.tmp 113) rfl g (q * 4) rfl (fun W' h=>hat.below h hgl) rfl rfl);refine tk 12 115 (.int .i64 b) hS ?_;refine tk 13 116 (.int .u8 (b:Int)) hS ?_ rfl (yo fun w=>by go_simp;rw [G6];omega);refine iZ 14 (fun K' hK=> ?_);refine aej (d:=117) (v:= .slice (some ⟨wc.drew.heap.size,0,none⟩) 1 1) (w':=wc.drew.alloc (.cells #[.int .u8 (b:Int)] 5)) rfl rfl (by go_simp) ?_
      have hRb:Row aV (wc.drew.alloc (.cells #[.int .u8 (b:Int)] 5)) wc.drew.heap.size 5 [UInt8.ofNat b]:=Row.new _ _ (by
       have e:aV (UInt8.ofNat b)= .int .u8 (b:Int):=by unfold aV;rw [Lg];congr 1;omega
       rw [← e];rfl)
      have iJ:=(mJ hRb (ah _) (by unfold maxLen;simp)).rd;have hS2:Below wc.heap.size wc (wc.drew.alloc (.cells #[.int .u8 (b:Int)] 5)):=hS.alloc hS.size _;refine hK.out _ _ hS2 fun _=> ?_;clear hK hRb hS;simp only [sA,sB,sC];generalize wc.drew.alloc (.cells #[.int .u8 (b:Int)] 5)=Wa at iJ hS2 ⊢;refine iZ 15 (fun K' hK=> ?_);refine cD 118 193 #[.slice (some ⟨wc.drew.heap.size,0,none⟩) 1 1] ?_;refine (agD Wa _ [UInt8.ofNat b] iJ (by simp)).mono ?_;rintro e Wb ⟨rfl,hBb⟩;have eP:=hS2.trans (hBb.mono hS2.size);refine ⟨_,rfl,hK.out _ _ eP fun _=> ?_⟩;clear hK hBb hS2 iJ
      have ha:gD [UInt8.ofNat b]=bS.add b:=by
       show bS.add (UInt8.ofNat b).toNat=_;rw [Lg,qdq (by omega)]
      rw [ha];clear ha;generalize bS.add b=y at *;simp only [sA,sB,sC];refine iZ 16 (fun K' hK=> ?_);refine cD 119 57 #[.agg (ax x), .agg (ax y)] ?_;refine (Ja Wb x y).mono ?_;rintro e Wc ⟨rfl,jR⟩;have vK:=eP.trans (jR.mono eP.size);refine ⟨_,rfl,hK.out _ _ vK fun _=> ?_⟩;clear hK jR eP;simp only [sA,sB,sC];refine aP (by kernel_rfl) ?_;simp only [List.drop];have Tg:=xA.under vK;clear hoc hat xA vK;generalize x.union y=z at *;have hKw:=Tg.cls;go_step;go_step;go_step;refine jA (C:=ax z) (enc:=aJ) ay eH (.tmp 120) (.tmp 119) rfl rfl g MF.cls.length d10 q (q * 4) rfl rfl z rfl rfl hKw hqk ?_;intro W5 hK5 jJ;have hgo:(Value.slice (some ⟨g,0,none⟩) MF.cls.length d10).ownBlock=some g:=rfl;have hgb:=(hKw.lt g hgo).1;have Iw:Hid (xh w W5 tb T ⟨.slice pn n kn,jL⟩ ⟨va,hva⟩ q9 d9 (some ⟨g,0,none⟩) d10 {MF with cls:=MF.cls.set q z}):=af ⟨Tg.cells.kept jJ (fun k hk e=>hKw.type Tg.cells (by decide) g hgo (e.trans hk.symm)),by show aT 4 aJ W5 _ _ (.slice _ (MF.cls.set q z).length _) _;rw [ru];exact hK5,Tg.of.grown jJ (by simp;omega),Tg.map.kept jJ (by simp;omega),Tg.rf.grown jJ (fun b e=>by injection e with e;omega),aL Tg.sz jJ.size⟩;clear hK5 jJ Tg hKw;go_wp2_with fail
      go_roundw
      case rel=>exact ⟨b+1,_,q9,d9,some ⟨g,0,none⟩,d10,by omega,by go_num,UZ,rfl,by rw [ru],Iw.out⟩
      case measure=>simp [intOf];omega
    ·obtain rfl:b=256:=by omega
     have HE:Hid (T.merge (block,aG)=M):=HM;have HO:=af (xA.cells.mono (by omega:tb≤tb+3));have HK:=af (xA.cls.mono (by omega:tb≤tb+3));have HB:=af xA.rf.fH;clear xA;go_wp2_with fail;go_ret2;refine ⟨p9,c9,tO,c10,?_,?_,?_,by rw [dF.out];exact HB.out⟩
     ·rw [HE.out];rfl
     ·rw [HE.out,dF.out];exact HO.out
     ·rw [HE.out,dF.out];exact HK.out
end
end Go.Proofs.YtncnfncglacheaaGreatDoor
