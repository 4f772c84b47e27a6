/- Part of a proof. -/
import Derived.Test.YtncnfncglacheaaGreatDoorFEvAll
set_option linter.all false
set_option maxRecDepth 100000
set_option maxHeartbeats 64000000
namespace Go.Proofs.YtncnfncglacheaaGreatDoor
section
open Go Go.RowKit Mem
section
variable {P:Program} {ops:Array Oper} {rest:List Oper} {o:Oper} {a:Act} {w:World} {Q:Exit→Act→World→Prop}
theorem gI {t:TypeId} (Z:Array Value) (hz:∀w,(zeroValue t).run P w= .ok (.agg Z) w) (hg:o.guard=none) (ho:o.op= .alloc t) (N:Nat) (hN:w.heap.size=N)
  (hk:wpList P ops Q rest (a.put o.dst (.pointer (some ⟨N,0,none⟩))) (w.alloc (.cells Z t))):wpList P ops Q (o::rest) a w:=by
 subst hN;refine RQ hg fun K hK=> ?_;unfold Oper.wp;simp [execOp,ho,Instr.alloc,hz,newVar,Value.cells,Result.andThen];exact hK _ _ hk
end
def bC (T:TB) (vn va:OC):List OC:=T.cell.map (fun n:Nat=>oi (n:Int))++[oi (T.cells:Int),vn,va]
theorem zG {T:TB} (vn va:OC) {b:Nat} (hb:b<T.cell.length):(bC T vn va)[b]?=some (oi (T.cell.getD b 0:Nat)):=by
 unfold bC;rw [Ig (by rw [fD];exact hb),jS,bM hb,dD,bM hb];rfl
theorem kK {T:TB} (vn va:OC) (h:T.cell.length=256) (i:Nat):(bC T vn va)[256+i]?=[oi (T.cells:Int),vn,va][i]?:=by
 unfold bC;rw [Kk (by rw [fD];omega),fD,h];congr 1;omega
theorem R5 (T:TB) (vn va:OC) (b k:Nat) (hb:b<T.cell.length):(bC T vn va).set b (oi (k:Int))=bC {T with cell:=T.cell.set b k} vn va:=by
 unfold bC;rw [List.set_append_left _ _ (by rw [fD];exact hb),← TW]
theorem aW {T:TB} (vn va:OC) (h:T.cell.length=256):(bC T vn va).length=259:=by
 unfold bC;rw [fq,fD,h];rfl
def kL (w:World) (C:Array Value) (T:TB):Prop:=∃vn va:OC,C=((bC T vn va).map oV).toArray∧vU w vn.1 T.nx∧Rd Value.bool w va.1 T.ac∧T.cell.length=256
theorem kL.below {w w':World} {C:Array Value} {T:TB} (h:kL w C T) (hb:Below w.heap.size w w'):kL w' C T:=by
 obtain ⟨vn,va,rfl,h1,h2,h3⟩:=h;exact ⟨vn,va,rfl,vU.below' h1 hb,h2.below hb,h3⟩
theorem jd:bU Tryz.prog 166 259:=⟨fun _=>by kernel_rfl,fun _=>by kernel_rfl⟩
def gu:Array Value:=((bC ⟨List.replicate 256 0,0,[],[]⟩ on on).map oV).toArray
theorem uE (w:World):(zeroValue 166).run Tryz.prog w= .ok (.agg gu) w:=by kernel_rfl
end
section
open Go Go.RowKit Mem
theorem yA (w:World) (vc:Value) (un ua:OC) (D:DF) (hv:dA w (.agg #[vc,un.1,ua.1]) D) (hm:D.cls.length≤256) (hT:iw w):Calls Tryz.prog 70 #[.agg #[vc,un.1,ua.1]] w fun e w'=>e= .returned (.agg ((bC (bT D) un ua).map oV).toArray)∧Below w.heap.size w w':=by
 obtain ⟨vn,jL⟩:=un;obtain ⟨va,hva⟩:=ua;obtain ⟨vc',vn',va',heq,h1,h2,h3⟩:=hv;simp only [Value.agg.injEq,TU,Hg,G5] at heq;obtain ⟨rfl,rfl,rfl⟩:=heq;obtain ⟨pc,kc,rfl⟩:=h1.slice;obtain ⟨pn,kn,rfl⟩:=h2.slice;obtain ⟨pa,ka,rfl⟩:=h3.slice;have HC:=af h1;have HN:=af h2;have HA:=af h3;have HT:=af hT;obtain ⟨m,Hm⟩:∃n,Hid (D.cls.length=n):=⟨_,af rfl⟩
 rw [Hm.out] at HC hm ⊢;generalize D.nx.length=n1 at *;generalize D.ac.length=n2 at *;clear h1 h2 h3 hT;have hD0:Row oV (w.alloc (.cells #[.slice pc m kc, .slice pn n1 kn, .slice pa n2 ka] 79)) w.heap.size 79 [⟨.slice pc m kc,rfl⟩,⟨.slice pn n1 kn,rfl⟩,⟨.slice pa n2 ka,rfl⟩]:=Row.new _ _ rfl;have hB0:Below w.heap.size w (w.alloc (.cells #[.slice pc m kc, .slice pn n1 kn, .slice pa n2 ka] 79)):=(au _ _).alloc (ah _) _;have hS0:(w.alloc (.cells #[.slice pc m kc, .slice pn n1 kn, .slice pa n2 ka] 79)).heap.size=w.heap.size+1:=bR _ _;go_enter Tryz.func70,Tryz.ntmps70;go_upto_region 1 with ((with_reducible refine gI (t:=166) gu uE ?_ ?_ (w.heap.size+1) ?_ ?_);rfl;rfl;exact hS0);have hD1:=hD0.alloc (.cells gu 166);have hB1:=ai hB0 (ah _) (.cells gu 166);have hS1:((w.alloc (.cells #[.slice pc m kc, .slice pn n1 kn, .slice pa n2 ka] 79)).alloc (.cells gu 166)).heap.size=w.heap.size+2:=by rw [bR,hS0]
 have hZ1:Row oV ((w.alloc (.cells #[.slice pc m kc, .slice pn n1 kn, .slice pa n2 ka] 79)).alloc (.cells gu 166)) (w.heap.size+1) 166 (bC ⟨List.replicate 256 0,0,[],[]⟩ on on):=by
  have h:Row oV ((w.alloc (.cells #[.slice pc m kc, .slice pn n1 kn, .slice pa n2 ka] 79)).alloc (.cells gu 166)) (w.alloc (.cells #[.slice pc m kc, .slice pn n1 kn, .slice pa n2 ka] 79)).heap.size 166 (bC ⟨List.replicate 256 0,0,[],[]⟩ on on):=Row.new _ _ rfl;rw [hS0] at h;exact h
 generalize ((w.alloc (.cells #[.slice pc m kc, .slice pn n1 kn, .slice pa n2 ka] 79)).alloc (.cells gu 166))=W at hD1 hB1 hS1 hZ1 ⊢;clear hD0 hB0 hS0;have c0:W.cell? ⟨w.heap.size,0,none⟩=some (.slice pc m kc):=by rw [hD1.cell?];rfl
 have c1:W.cell? ⟨w.heap.size,1,none⟩=some (.slice pn n1 kn):=by rw [hD1.cell?];rfl
 have c2:W.cell? ⟨w.heap.size,2,none⟩=some (.slice pa n2 ka):=by rw [hD1.cell?];rfl
 obtain ⟨C0,tq⟩:∃C,Hid (C=((bC ⟨List.replicate 256 0,m,[],[]⟩ ⟨.slice pn n1 kn,rfl⟩ ⟨.slice pa n2 ka,rfl⟩).map oV).toArray):=⟨_,af rfl⟩
 have hbu:((Tryz.zeroCells166.setIfInBounds 256 (.int .i64 (m:Int))).setIfInBounds 257 (.slice pn n1 kn)).setIfInBounds 258 (.slice pa n2 ka)=C0:=by rw [tq.out];kernel_rfl
 have hZ2:Row oV (W.alloc (.cells gu 166)) (w.heap.size+2) 166 (bC ⟨List.replicate 256 0,0,[],[]⟩ on on):=by
  have h:Row oV (W.alloc (.cells gu 166)) W.heap.size 166 (bC ⟨List.replicate 256 0,0,[],[]⟩ on on):=Row.new _ _ rfl;rw [hS1] at h;exact h
 have hB2:=ai hB1 (ah _) (.cells gu 166);have hD2:=hD1.alloc (.cells gu 166);have hR2:=hZ1.alloc (.cells gu 166);have hS2:(W.alloc (.cells gu 166)).heap.size=w.heap.size+3:=by rw [bR,hS1]
 have x9:bU Tryz.prog 166 (bC ⟨List.replicate 256 0,m,[],[]⟩ ⟨.slice pn n1 kn,rfl⟩ ⟨.slice pa n2 ka,rfl⟩).length:=by rw [aW _ _ (by simp)];exact jd
 have Ro:(bC ⟨List.replicate 256 0,m,[],[]⟩ ⟨.slice pn n1 kn,rfl⟩ ⟨.slice pa n2 ka,rfl⟩).length=(bC ⟨List.replicate 256 0,0,[],[]⟩ on on).length:=by rw [aW _ _ (by simp),aW _ _ (by simp)]
 go_upto_region 2 with (first
  | ((with_reducible refine gI (t:=166) gu uE ?_ ?_ (w.heap.size+2) ?_ ?_);rfl;rfl;exact hS1)
  | ((with_reducible refine aK (f:=oV) (l:=bC ⟨List.replicate 256 0,0,[],[]⟩ on on) (l':=bC ⟨List.replicate 256 0,m,[],[]⟩ ⟨.slice pn n1 kn,rfl⟩ ⟨.slice pa n2 ka,rfl⟩) (t:=166) (C:=C0) x9 (.tmp 3) (.tmp 15) ?_ ?_ (w.heap.size+2) ?_ tq.out ?_ hZ2 Ro bF ?_);rfl;rfl;rfl;(first | rfl | exact congrArg Value.agg hbu);(intro W6 hs6 dw gP)))
 have gH:=hB2.grown dw (by omega) (fun k e=>by cases e;omega);have hD6:=hD2.grown dw (by simp);have hR6:=hR2.grown dw (by simp);have ae8:=gP.trans hS2;clear hZ1 hD1 hB1 hS1 hZ2 hB2 hD2 hR2 hS2 dw gP x9 Ro hbu c0 c1 c2;clear W;have e0:W6.cell? ⟨w.heap.size,0,none⟩=some (.slice pc m kc):=by rw [hD6.cell?];rfl
 clear hD6;obtain ⟨db,LK⟩:∃db,Hid (w.heap.size=db):=⟨_,af rfl⟩
 rw [LK.out] at hs6 gH hR6 ae8 e0 ⊢;go_wp2_with fail;clear e0
 go_loopw [19] (fun i wr=>∃k:Nat,k≤m∧i= .int .i64 k∧Row oV wr (db+2) 166 (bC ⟨kU D.cls k,m,[],[]⟩ ⟨.slice pn n1 kn,rfl⟩ ⟨.slice pa n2 ka,rfl⟩)∧Row oV wr (db+1) 166 (bC ⟨List.replicate 256 0,0,[],[]⟩ on on)∧Below db w wr∧db+3≤wr.heap.size) (fun i _=>m - (intOf i).toNat)
 case atStart=>exact ⟨0,by omega,rfl,hs6,hR6,gH,by omega⟩
 case round=>
  clear hs6 hR6 gH ae8;obtain ⟨k,hk,rfl,hs,hR,hB,hz⟩:=hrel;by_cases hlt:k<m
  ·have hq:(k:Int)<(m:Int):=by omega
   have hkl:k<D.cls.length:=by rw [Hm.out];exact hlt
   have hW1:Below w.heap.size w wr:=by rw [LK.out];exact hB
   obtain ⟨cb,co,rfl,hAt,_,hcl⟩:=HC.out.elem k hkl;have hA:=hAt.below hW1 hcl;have hTw:=HT.out.below hW1 HT.out.lt;have HKS:Hid (kU D.cls (k+1)=eu k (VN D.cls[k]) (kU D.cls k)):=af (by rw [kU,dD,bM hkl];rfl);generalize D.cls[k]=c at *;have BB:=af (jN D.cls k);have hzz:Row oV (wr.alloc (.cells fV 65)) wr.heap.size 65 [ow 0,ow 0,ow 0,ow 0]:=Row.new _ _ rfl;have hBx:=ai hB (Iq LK.out.symm) (.cells fV 65);have hsx:=hs.alloc (.cells fV 65);have hRx:=hR.alloc (.cells fV 65);have hzx:db+3≤(wr.alloc (.cells fV 65)).heap.size:=by rw [bR];omega
   go_upto_region 5 with (first
    | ((with_reducible refine zL hA ay rfl (C:=ax c) ?_))
    | ((with_reducible refine zS (l':=aJ c) hzz ay ?_);(intro W7 hs7 gL vZ)))
   have gU:=hBx.grown gL (by have:=hBx.size;omega) (fun k e=>by cases e;have:=hB.size;omega);have hT7:=hsx.grown gL (by simp;omega);have yl:=hRx.grown gL (by simp;omega);have Nl:db+3≤W7.heap.size:=by rw [vZ];exact hzx
   have uW:iw W7:=HT.out.below (by rw [LK.out];exact gU:Below w.heap.size w W7) HT.out.lt;clear hzz hBx hsx hRx hzx hs hR hB hz hW1 hA hAt hTw gL vZ;generalize wr.heap.size=bx at hs7 ⊢;clear wr;go_wp2_with ((with_reducible refine zL hs7.at ay rfl (C:=ax c) ?_));refine (acH W7 c uW).mono ?_;rintro e W8 ⟨v,rfl,hO,jC⟩;have adM:Below db w W8:=gU.trans (jC.mono (by omega));have hT8:=hT7.below jC hT7.lt;have Vv:=yl.below jC yl.lt;have hz8:=aL Nl jC.size;obtain ⟨ml,Hml⟩:∃l,Hid (VN c=l):=⟨_,af rfl⟩
   have hml:mbs c=ml.map UInt8.ofNat:=by rw [← Hml.out];rfl
   have KD:Hid (∀b∈ml,b<256):=af (by rw [← Hml.out];exact aaH c);have hnb:ml.length≤256:=by rw [← Hml.out];exact MZ c 256
   rw [hml] at hO;rw [Hml.out] at HKS;clear hml uW
   have HP:Hid (∀j,j<ml.length→∃b cap,v= .slice (some ⟨b,0,none⟩) ml.length cap∧db+3≤b∧b<W8.heap.size∧W8.cell? ⟨b,j,none⟩=some (.int .u8 (ml.getD j 0:Nat))):=af fun j hj=>by
    rcases hO.2 with ⟨hq,h0⟩ | ⟨g,cap',cur,hv,hg,hgc,_⟩
    ·exfalso;have h1:=hO.slice;obtain ⟨p,c',h1⟩:=h1;rw [hq] at h1;injection h1 with _ h1 _
     rw [fD] at h1;omega
    ·obtain ⟨p,c',h1⟩:=hO.slice;have h2:=hO.rd;rw [hv] at h2 h1;obtain ⟨b,o,he,hn,_,ha,hbl⟩:=h2.nonempty (by rw [fD];omega);injection he with he
     injection he with he1 he2 _
     subst he1 he2;refine ⟨g,cap',by rw [hv,hn,fD],by omega,hbl,?_⟩;have h3:=ha j (by rw [fD];exact hj);rw [nR] at h3;rw [h3,jS,bM hj,dD,bM hj];have h4:ml[j]<256:=KD.out _ (pJ hj);simp only [lK,aV,qE];rw [UInt8.toNat_ofNat_of_lt' h4]
   obtain ⟨pv,cv,hv⟩:=hO.slice;rw [fD] at hv;subst hv;obtain ⟨nb,Hnb⟩:∃n,Hid (ml.length=n):=⟨_,af rfl⟩
   rw [Hnb.out] at HP hnb ⊢;clear hO jC gU hT7 yl Nl hs7;clear W7;have U5:Hid (Below db w W8):=af adM;go_wp2_with fail
   go_loopw [27] (fun i wq=>∃j:Nat,j≤nb∧i= .int .i64 j∧Row oV wq (db+2) 166 (bC ⟨eu k (ml.take j) (kU D.cls k),m,[],[]⟩ ⟨.slice pn n1 kn,rfl⟩ ⟨.slice pa n2 ka,rfl⟩)∧W8.grownBy wq (some (db+2))) (fun i _=>nb - (intOf i).toNat)
   case atStart=>exact ⟨0,by omega,rfl,hT8,World.grownBy.refl _ _⟩
   case round=>
    clear hT8 adM;obtain ⟨j,hj,rfl,hs,hG⟩:=hrel;by_cases hjl:j<nb
    ·have hq2:(j:Int)<(nb:Int):=by omega
     obtain ⟨b,cap,hv,hb1,hb2,hc⟩:=HP.out j hjl;injection hv with hv1 _ _
     subst hv1;have cx:wr.cell? ⟨b,j,none⟩=some (.int .u8 (ml.getD j 0:Nat)):=(nU (a:=⟨b,j,none⟩) (hG.block b hb2 (by simp;omega))).trans hc;have hx:ml.getD j 0<256:=KD.out _ (aO _ _ _ (by rw [Hnb.out];exact hjl))
     have HST:Hid (eu k (ml.take (j+1)) (kU D.cls k)=(eu k (ml.take j) (kU D.cls k)).set (ml.getD j 0) k):=af (by
      have hjm:j<ml.length:=by rw [Hnb.out];exact hjl
      unfold eu
      rw [dG _ _ _ _ hjm,dD,bM hjm];rfl)
     have hcl:(eu k (ml.take j) (kU D.cls k)).length=256:=by rw [rY];exact BB.out
     generalize eu k (ml.take j) (kU D.cls k)=cl at *;generalize ml.getD j 0=x at *;have hx1:(x:Int)<256:=by omega
     have hold:wr.cell? ⟨db+2,x,none⟩=some (.int .i64 (cl.getD x 0:Nat)):=by rw [hs.cell?,zG (T:=⟨cl,m,[],[]⟩) _ _ (by rw [hcl];exact hx)];rfl
     have fr:=hs.frozen x;have hs':=hs.set x (oi (k:Int));rw [R5 ⟨cl,m,[],[]⟩ _ _ x k (by rw [hcl];exact hx)] at hs';have hG':=Mem.jb hG x (.int .i64 (k:Int));clear hc hs hG;go_wp2_with fail
     go_roundw
     case rel=>exact ⟨j+1,by omega,by go_num,by rw [HST.out];exact hs',hG'⟩
     case measure=>simp [intOf];omega
    ·obtain rfl:j=nb:=by omega
     have dV:=U5.out.grown hG (by have:=U5.out.size;omega) (fun k e=>by cases e;omega);have OO:=Vv.grown hG (by simp);have hzf:=aL hz8 hG.size;rw [qj (by rw [Hnb.out];exact ah _),← HKS.out] at hs;clear hG;go_wp2_with fail
     go_roundw
     case rel=>exact ⟨k+1,by omega,by go_num,hs,OO,dV,hzf⟩
     case measure=>simp [intOf];omega
  ·obtain rfl:k=m:=by omega
   have hTT:bC ⟨kU D.cls k,k,[],[]⟩ ⟨.slice pn n1 kn,rfl⟩ ⟨.slice pa n2 ka,rfl⟩=bC (bT D) ⟨.slice pn n1 kn,rfl⟩ ⟨.slice pa n2 ka,rfl⟩:=by
    unfold bC bT;rw [Hm.out]
   rw [hTT] at hs;have BB:=af (jN D.cls D.cls.length);obtain ⟨L,HL⟩:∃L,Hid (bC (bT D) ⟨.slice pn n1 kn,rfl⟩ ⟨.slice pa n2 ka,rfl⟩=L):=⟨_,af rfl⟩
   rw [HL.out] at hs;have QI:L.length=259:=by rw [← HL.out];exact aW _ _ BB.out
   have hLz:L.length=(bC ⟨List.replicate 256 0,0,[],[]⟩ on on).length:=by rw [QI,aW _ _ (by simp)]
   have x9:bU Tryz.prog 166 L.length:=by rw [QI];exact jd
   obtain ⟨C,HCC⟩:∃C,Hid (C=(L.map oV).toArray):=⟨_,af rfl⟩
   clear hTT
   go_wp2_with (first
    | ((with_reducible refine zL hs.at x9 HCC.out ?_))
    | ((with_reducible refine aK (f:=oV) (l:=bC ⟨List.replicate 256 0,0,[],[]⟩ on on) (l':=L) (t:=166) (C:=C) x9 (.tmp 2) (.tmp 37) ?_ ?_ (db+1) ?_ HCC.out ?_ hR hLz bF ?_);rfl;rfl;rfl;rfl;(intro W9 iO dB tY)))
   have dV:=hB.grown dB (by have:=hB.size;omega) (fun k e=>by cases e;omega);refine fJ (aR (f:=oV) (l:=L) rfl _ x9 (db+1) 0 rfl iO.at) rfl ?_;exact ⟨by rw [HL.out],by rw [LK.out];exact dV⟩
theorem Qf (w:World) (v:Value) (D:DF) (hv:dA w v D) (hm:D.cls.length≤256) (hT:iw w):Calls Tryz.prog 70 #[v] w fun e w'=>∃C,e= .returned (.agg C)∧kL w' C (bT D)∧Below w.heap.size w w':=by
 have hv':=hv;obtain ⟨vc,vn,va,rfl,h1,h2,h3⟩:=hv;obtain ⟨pn,kn,rfl⟩:=h2.slice;obtain ⟨pa,ka,rfl⟩:=h3.slice;refine (yA w vc ⟨.slice pn D.nx.length kn,rfl⟩ ⟨.slice pa D.ac.length ka,rfl⟩ D hv' hm hT).mono ?_;rintro e w' ⟨rfl,hB⟩;exact ⟨_,rfl,⟨_,_,rfl,vU.below' h2 hB,h3.below hB,jN D.cls D.cls.length⟩,hB⟩
def Cl.bit (c:Cl) (b:Nat):Bool:=((c.w (b / 64))>>>UInt64.ofNat (b % 64)) &&& 1==1
theorem ZK (x:UInt64) (r:Nat) (h:r<64):(bits .and .u64 (X x / 2 ^ r) 1==1)=((x>>>UInt64.ofNat r) &&& 1==1):=by
 rw [uU x r h,show (1:Int)=X 1 from rfl,qm];generalize (x>>>UInt64.ofNat r) &&& 1=y;have:X y=X 1↔y=1:=⟨fun h=>rZ h,fun h=>by rw [h]⟩
 rw [AL];simp only [EE,this]
def xS (c:Cl) (i:Nat) (l:List Nat) (n:Nat):List Nat:=(List.range n).foldl (fun l b=>if c.bit b then l.set b i else l) l
def fI (cls:List Cl):Nat→List Nat
 | 0=>List.replicate 256 0
 | i+1=>xS (cls.getD i ⟨0,0,0,0⟩) i (fI cls i) 256
theorem xg (c:Cl) (i:Nat) (l:List Nat) (n:Nat):xS c i l (n+1)=if c.bit n then (xS c i l n).set n i else xS c i l n:=by
 unfold xS;rw [K7,SV];rfl
theorem E9 (c:Cl) (i:Nat) (l:List Nat) (n:Nat):(xS c i l n).length=l.length:=by
 induction n with
 | zero=>rfl
 | succ n ih=>rw [xg];split<;>simp [ih]
theorem yE (cls:List Cl) (i:Nat):(fI cls i).length=256:=by
 induction i with
 | zero=>simp [fI]
 | succ i ih=>rw [fI,E9,ih]
def lI (vc vn va:OC) (l:List Nat):List OC:=[vc,vn,va]++l.map fun n:Nat=>oi (n:Int)
theorem NC (vc vn va:OC) {l:List Nat} {b:Nat} (h:b<l.length):(lI vc vn va l)[3+b]?=some (oi (l.getD b 0:Nat)):=by
 unfold lI;rw [Kk (by simp)];simp only [nQ,PS,Nat.reduceAdd,Nat.add_sub_cancel_left,jS];rw [dD,bM h];rfl
theorem aah (vc vn va:OC) (l:List Nat) (b k:Nat):(lI vc vn va l).set (3+b) (oi (k:Int))=lI vc vn va (l.set b k):=by
 unfold lI;rw [H9 _ _ (by simp)];simp [TW]
theorem RI (w:World) (pc pn pa:Option Addr) (nc kc nn kn na ka:Nat) (cls:List Cl) (hv:nu 4 aJ w (.slice pc nc kc) cls) (hm:cls.length≤256):
  Calls Tryz.prog 219 #[.agg #[.slice pc nc kc, .slice pn nn kn, .slice pa na ka]] w fun e w'=>∃mb,e= .returned (.pointer (some ⟨mb,0,none⟩))∧w.heap.size≤mb∧Row oV w' mb 358 (lI ⟨.slice pc nc kc,rfl⟩ ⟨.slice pn nn kn,rfl⟩ ⟨.slice pa na ka,rfl⟩ (fI cls cls.length))∧Below w.heap.size w w':=by
 obtain rfl:nc=cls.length:=by
  obtain ⟨p,c,h⟩:=hv.slice;cases h;rfl
 have HC:=af hv;obtain ⟨m,Hm⟩:∃n,Hid (cls.length=n):=⟨_,af rfl⟩
 rw [Hm.out] at HC hm ⊢;clear hv;have hD0:Row oV (w.alloc (.cells #[.slice pc m kc, .slice pn nn kn, .slice pa na ka] 79)) w.heap.size 79 [⟨.slice pc m kc,rfl⟩,⟨.slice pn nn kn,rfl⟩,⟨.slice pa na ka,rfl⟩]:=Row.new _ _ rfl;have hB0:Below w.heap.size w (w.alloc (.cells #[.slice pc m kc, .slice pn nn kn, .slice pa na ka] 79)):=(au _ _).alloc (ah _) _;have hS0:(w.alloc (.cells #[.slice pc m kc, .slice pn nn kn, .slice pa na ka] 79)).heap.size=w.heap.size+1:=bR _ _;obtain ⟨C0,tq⟩:∃C,Hid (C=((lI ⟨.slice pc m kc,rfl⟩ ⟨.slice pn nn kn,rfl⟩ ⟨.slice pa na ka,rfl⟩ (fI cls 0)).map oV).toArray):=⟨_,af rfl⟩
 have hbe:((Tryz.zeroCells358.setIfInBounds 0 (.slice pc m kc)).setIfInBounds 1 (.slice pn nn kn)).setIfInBounds 2 (.slice pa na ka)=C0:=by rw [tq.out];kernel_rfl
 go_enter Tryz.func219,Tryz.ntmps219;go_upto_region 1 with (fail);generalize (w.alloc (.cells #[.slice pc m kc, .slice pn nn kn, .slice pa na ka] 79))=W at *;have c0:W.cell? ⟨w.heap.size,0,none⟩=some (.slice pc m kc):=by rw [hD0.cell?];rfl
 have c1:W.cell? ⟨w.heap.size,1,none⟩=some (.slice pn nn kn):=by rw [hD0.cell?];rfl
 have c2:W.cell? ⟨w.heap.size,2,none⟩=some (.slice pa na ka):=by rw [hD0.cell?];rfl
 go_upto_region 2 with (fail);clear hbe c0 c1 c2
 have iJ:Row oV (W.alloc (.cells C0 358)) (w.heap.size+1) 358 (lI ⟨.slice pc m kc,rfl⟩ ⟨.slice pn nn kn,rfl⟩ ⟨.slice pa na ka,rfl⟩ (fI cls 0)):=by
  have h:Row oV (W.alloc (.cells C0 358)) W.heap.size 358 (lI ⟨.slice pc m kc,rfl⟩ ⟨.slice pn nn kn,rfl⟩ ⟨.slice pa na ka,rfl⟩ (fI cls 0)):=by
   rw [tq.out];exact Row.new _ _ rfl
  rw [hS0] at h;exact h
 have hD1:=hD0.alloc (.cells C0 358);have hB1:=ai hB0 (ah _) (.cells C0 358);have hS1:(W.alloc (.cells C0 358)).heap.size=w.heap.size+2:=by rw [bR,hS0]
 generalize hcc:(.agg C0:Value)=vC at *;clear hcc hD0 hB0 hS0;generalize (W.alloc (.cells C0 358))=W2 at *;clear W tq;have c0:W2.cell? ⟨w.heap.size,0,none⟩=some (.slice pc m kc):=by rw [hD1.cell?];rfl
 have c1:W2.cell? ⟨w.heap.size,1,none⟩=some (.slice pn nn kn):=by rw [hD1.cell?];rfl
 have c2:W2.cell? ⟨w.heap.size,2,none⟩=some (.slice pa na ka):=by rw [hD1.cell?];rfl
 clear hD1;obtain ⟨db,LK⟩:∃db,Hid (w.heap.size=db):=⟨_,af rfl⟩
 rw [LK.out] at iJ hB1 hS1 c0 c1 c2 ⊢;go_wp2_with fail;clear c0 c1 c2
 go_loopw [13] (fun i wr=>∃k:Nat,k≤m∧i= .int .i64 k∧Row oV wr (db+1) 358 (lI ⟨.slice pc m kc,rfl⟩ ⟨.slice pn nn kn,rfl⟩ ⟨.slice pa na ka,rfl⟩ (fI cls k))∧Below db w wr∧db+2≤wr.heap.size) (fun i _=>m - (intOf i).toNat)
 case atStart=>exact ⟨0,by omega,rfl,iJ,hB1,by omega⟩
 case round=>
  clear iJ hB1 hS1;obtain ⟨k,hk,rfl,hR,hB,hz⟩:=hrel;by_cases hlt:k<m
  ·have hq:(k:Int)<(m:Int):=by omega
   have hkl:k<cls.length:=by rw [Hm.out];exact hlt
   have hW1:Below w.heap.size w wr:=by rw [LK.out];exact hB
   obtain ⟨cb,co,rfl,hAt,_,hcl⟩:=HC.out.elem k hkl;have hA:=hAt.below hW1 hcl;have HKS:Hid (fI cls (k+1)=xS cls[k] k (fI cls k) 256):=af (by rw [fI,dD,bM hkl];rfl);generalize cls[k]=c at *;have BB:=af (yE cls k);have hzz:Row oV (wr.alloc (.cells fV 65)) wr.heap.size 65 [ow 0,ow 0,ow 0,ow 0]:=Row.new _ _ rfl;have hBx:=ai hB (Iq LK.out.symm) (.cells fV 65);have hRx:=hR.alloc (.cells fV 65);have hzx:db+2≤(wr.alloc (.cells fV 65)).heap.size:=by rw [bR];omega
   go_upto_region 5 with (first
    | ((with_reducible refine zL hA ay rfl (C:=ax c) ?_))
    | ((with_reducible refine zS (l':=aJ c) hzz ay ?_);(intro W7 hs7 gL vZ)))
   have gU:=hBx.grown gL (by have:=hBx.size;omega) (fun k e=>by cases e;omega);have yl:=hRx.grown gL (by simp;omega);have Nl:db+2≤W7.heap.size:=by rw [vZ];exact hzx
   clear hzz hBx hRx hzx hR hB hW1 hA hAt gL vZ;have hbx:db+2≤wr.heap.size:=hz;have hlx:=hs7.lt;clear hz;generalize wr.heap.size=bx at hs7 hbx hlx ⊢;clear wr;have HS7:=af hs7;clear hs7;rw [FI];go_wp2_with fail
   go_loopw [18] (fun i wq=>∃b:Nat,b≤256∧i= .int .i64 b∧Row oV wq (db+1) 358 (lI ⟨.slice (some ⟨cb,co,none⟩) m kc,rfl⟩ ⟨.slice pn nn kn,rfl⟩ ⟨.slice pa na ka,rfl⟩ (xS c k (fI cls k) b))∧W7.grownBy wq (some (db+1))) (fun i _=>256 - (intOf i).toNat)
   case atStart=>exact ⟨0,by omega,rfl,yl,World.grownBy.refl _ _⟩
   case round=>
    clear yl;obtain ⟨b,hb,rfl,hs,hG⟩:=hrel;by_cases hbl:b<256
    ·have hq2:(b:Int)<256:=by omega
     obtain ⟨q,hqd⟩:∃q,q=b / 64:=⟨_,rfl⟩
     obtain ⟨r,hrd⟩:∃r,r=b % 64:=⟨_,rfl⟩
     have hq4:q<4:=by omega
     have hr:r<64:=by omega
     have hn:b=64 * q+r:=by omega
     have hbit:c.bit b=(((c.w q)>>>UInt64.ofNat r) &&& 1==1):=by unfold Cl.bit;rw [← hqd,← hrd]
     have d1:((b:Int)).tdiv 64=(q:Int):=by rw [Yx (by omega)];omega
     have d2:((b:Int)).tmod 64=(r:Int):=by rw [LG (by omega)];omega
     have d3:(b:Int) / 64=(q:Int):=by omega
     have d4:(b:Int) % 64=(r:Int):=by omega
     have hq':(q:Int)<4:=by omega
     have hcx:wr.cell? ⟨bx,q,none⟩=some (.int .u64 (X (c.w q))):=(nU (a:=⟨bx,q,none⟩) (hG.block bx hlx (by simp;omega))).trans (by rw [HS7.out.cell?,yJ c q hq4];rfl);have afK:(xS c k (fI cls k) b).length=256:=by rw [E9];exact BB.out
     have HST:=af (xg c k (fI cls k) b);generalize xS c k (fI cls k) b=cl at *;have hold:wr.cell? ⟨db+1,3+b,none⟩=some (.int .i64 (cl.getD b 0:Nat)):=by rw [hs.cell?,NC _ _ _ (by rw [afK];exact hbl)];rfl
     have fr:=hs.frozen (3+b);have hs':=hs.set (3+b) (oi (k:Int));rw [aah] at hs';have hG':=Mem.jb hG (3+b) (.int .i64 (k:Int));have hbb:=(ZK (c.w q) r hr).trans hbit.symm;clear hbit hqd hrd hn;cases hbt:c.bit b with
     | true=>
      rw [hbt] at hbb;rw [hbt,aC rfl] at HST;clear hbt;go_wp2_with fail
      go_roundw
      case rel=>exact ⟨b+1,by omega,by go_num,by rw [HST.out];exact hs',hG'⟩
      case measure=>simp [intOf];omega
     | false=>
      rw [hbt] at hbb;rw [hbt,aF (by simp)] at HST;clear hbt hs' hG';go_wp2_with fail
      go_roundw
      case rel=>exact ⟨b+1,by omega,by go_num,by rw [HST.out];exact hs,hG⟩
      case measure=>simp [intOf];omega
    ·obtain rfl:b=256:=by omega
     have hq2:¬((256:Nat):Int)<256:=by omega
     rw [← HKS.out] at hs;have dV:=gU.grown hG (by omega) (fun k e=>by cases e;omega);have hzf:=aL Nl hG.size;clear hG;go_wp2_with fail
     go_roundw
     case rel=>exact ⟨k+1,by omega,by go_num,hs,dV,hzf⟩
     case measure=>simp [intOf];omega
  ·obtain rfl:k=m:=by omega
   have hq:¬(k:Int)<(k:Int):=by omega
   rw [← LK.out] at hR hB ⊢;go_wp2;go_ret;exact ⟨w.heap.size+1,rfl,by omega,hR,hB⟩
end
section
open Go.ChangeShapes Go.WideShapes Go.ChangeAt Go.RowKit Mem
namespace zF
theorem aeD:Tryz.prog.globalNamed "math/bits.deBruijn64tab" =some 1:=by kernel_rfl
theorem Yp:(Tryz.prog.globals[1]?).map (·.type)=some 331:=by kernel_rfl
theorem aam:Tryz.prog.cellsOf 331=64:=by kernel_rfl
theorem TI:(Rows.laid_math_bits_deBruijn64tab:DataW Unit)=Lib.tabData .u8 (Lib.deBruijn64tab.map fun x:Nat=>(x:Int)):=rfl
theorem afx {W:World} (h:laidMetH Tryz.prog laid W):iw W:=by
 have h1:laidMet Tryz.prog laid W:=h;unfold laid at h1;rw [TI] at h1;have h3:=Lib.tabIs_of_head (rest:=[]) aeD Yp Tryz.underlying331 Tryz.underlying5 cells5 aam h1;intro j hj;have h4:=Lib.TabIs.cell h3 aeD j (by simpa [Lib.deBruijn64tab] using hj);rw [h4];congr 2;simp only [List.getD,jS];rw [bM (by simpa [Lib.deBruijn64tab] using hj)];rfl
end zF
end
section
open Go Go.RowKit Mem
theorem Qc:lF Tryz.prog 35 4 1:=lF.mk' Tryz.underlying35 (z:= .bool false) (by kernel_rfl) rfl
theorem Fy:lF Tryz.prog 92 3 8:=lF.mk' (z:= .int .i64 0) Tryz.underlying92 (by kernel_rfl) rfl
theorem OJ (x:Bool):(Value.bool x).oneCell'=true:=rfl
theorem RH (w:World) (n:Nat) (hn:n≤4294967296):(Instr.makeSlice 35 (.int .i64 (n:Int)) (.int .i64 (n:Int))).run Tryz.prog w= .ok (.slice (some ⟨w.heap.size,0,none⟩) n n) (w.alloc (.cells ((List.replicate n false).map Value.bool).toArray 4)):=by
 obtain ⟨i,z,hi,hz,hs,hb,_⟩:=Qc.hi
 have hzz:z= .bool false:=by
  have h:(Tryz.prog.info? 4).bind (·.zero)=some (.bool false):=by kernel_rfl
  rw [hi] at h;exact dJ (hz.symm.trans h)
 have h:=run_make w 35 4 i z Tryz.underlying35 hi hz .i64 .i64 (n:Int) (n:Int) (by omega) (Int.le_refl _) (by rw [hb];omega) (by omega);rw [Sw,hs,hzz,PE] at h;rw [h];show Result.ok _ (w.alloc (.cells (madeCells #[.bool false] n) _))=_
 have e:madeCells #[.bool false] n=((List.replicate n false).map Value.bool).toArray:=by
  apply ZF.1;rw [qcR,qdi]
 rw [e]
theorem tZ (w:World) (n:Nat) (hn:n≤4294967296):(Instr.makeSlice 92 (.int .i64 (n:Int)) (.int .i64 (n:Int))).run Tryz.prog w= .ok (.slice (some ⟨w.heap.size,0,none⟩) n n) (w.alloc (.cells ((List.replicate n 0).map nV).toArray 3)):=by
 obtain ⟨i,z,hi,hz,hs,hb,_⟩:=Fy.hi
 have hzz:z= .int .i64 0:=by
  have h:(Tryz.prog.info? 3).bind (·.zero)=some (.int .i64 0):=by kernel_rfl
  rw [hi] at h;exact dJ (hz.symm.trans h)
 have h:=run_make w 92 3 i z Tryz.underlying92 hi hz .i64 .i64 (n:Int) (n:Int) (by omega) (Int.le_refl _) (by rw [hb];omega) (by omega);rw [Sw,hs,hzz,PE] at h;rw [h];show Result.ok _ (w.alloc (.cells (madeCells #[.int .i64 0] n) _))=_
 have e:madeCells #[.int .i64 0] n=((List.replicate n 0).map nV).toArray:=by
  apply ZF.1;rw [qcR,qdi];rfl
 rw [e]
namespace Mem
theorem Own.kept {α:Type} {f:α→Value} {w w':World} {base:Nat} {e:TypeId} {v:Value} {l:List α} (h:Own f w base e v l) {row:Option Nat} (hg:w.grownBy w' row) (hne:∀g,v.ownBlock=some g→row≠some g):Own f w' base e v l:=by
 refine ⟨h.1,?_⟩;rcases h.2 with hn | ⟨g,cap,cur,rfl,hbg,hc,rest⟩
 ·exact .inl hn
 ·exact .inr ⟨g,cap,cur,rfl,hbg,(hg.block g (jg.1 hc).1 (fun e=>hne g rfl e.symm)).trans hc,rest⟩
theorem Own.block {α:Type} {f:α→Value} {w:World} {base:Nat} {e:TypeId} {p:Option Addr} {n c:Nat} {l:List α} (h:Own f w base e (.slice p n c) l) (hl:0<l.length):∃g,p=some ⟨g,0,none⟩∧base≤g∧g<w.heap.size∧n=l.length∧n≤c∧At f w g 0 l∧w.frozen? ⟨g,0,none⟩=false:=by
 have hat:=h.at;rcases h.2 with ⟨he,h0⟩ | ⟨g,cap,cur,he,hb,hg,hn,hm,_⟩
 ·exact absurd h0 (by rw [vR];intro e;rw [e] at hl;simp at hl)
 ·injection he with e1 e2 e3
  subst e1 e2 e3;refine ⟨g,rfl,hb,(jg.1 hg).1,rfl,hn,hat g rfl,?_⟩;unfold World.frozen?;rw [hg];rfl
end Mem
theorem Sq {w:World} {base g n c:Nat} {e:TypeId} {l:List Nat} (h:Mem.Own nV w base e (.slice (some ⟨g,0,none⟩) n c) l) (k:Nat) (hk:k<l.length):w.cell? ⟨g,k,none⟩=some (.int .i64 (l.getD k 0:Nat)):=by
 have:=h.at g rfl k hk;rw [nR] at this;rw [this,bM hk,dD,bM hk];rfl
theorem zg {w:World} {b:Nat} {t:TypeId} {l:List Bool} (h:Row Value.bool w b t l) (k:Nat) (hk:k<l.length):w.cell? ⟨b,k,none⟩=some (.bool (l.getD k false)):=by
 rw [h.cell?,bM hk,dD,bM hk];rfl
theorem fu {w:World} {b:Nat} {t:TypeId} {l:List Nat} (h:Row nV w b t l) (k:Nat) (hk:k<l.length):w.cell? ⟨b,k,none⟩=some (.int .i64 (l.getD k 0:Nat)):=by
 rw [h.cell?,bM hk,dD,bM hk];rfl
def mg (n:Nat) (l:List Nat):List Bool:=(List.range n).map fun i=>decide (i∈l)
theorem uY (n:Nat) (l:List Nat):(mg n l).length=n:=by simp [mg]
theorem Ym (n:Nat) (l:List Nat) (i:Nat) (h:i<n):(mg n l).getD i false=decide (i∈l):=by
 rw [dD,mg,jS,Xm h];rfl
theorem Jw (n:Nat) (l:List Nat) (i:Nat):(mg n l).set i true=mg n (l++[i]):=by
 apply Q7;intro j;rw [LJ];by_cases hij:i=j
 ·subst hij;rw [aC rfl,uY];unfold mg;rw [jS];split
  ·rename_i h;rw [Xm h];simp
  ·rename_i h;rw [qX (by simp;omega)];rfl
 ·rw [aF hij];unfold mg;rw [jS,jS];by_cases hj:j<n
  ·rw [Xm hj];have:j≠i:=fun e=>hij e.symm;simp [this]
  ·rw [qX (by simp;omega)];rfl
end
section
open Go Go.RowKit Mem
structure qP (w:World) (b:Nat) (T:TB) (vn va:OC):Prop where
 row:Row oV w b 166 (bC T vn va)
 cl:T.cell.length=256
theorem qP.c {w:World} {b:Nat} {T:TB} {vn va:OC} (h:qP w b T vn va) (i:Nat) (hi:i<256):w.cell? ⟨b,i,none⟩=some (.int .i64 (T.cell.getD i 0:Nat)):=by
 rw [h.row.cell?,zG vn va (by rw [h.cl];exact hi)];rfl
theorem qP.cells {w:World} {b:Nat} {T:TB} {vn va:OC} (h:qP w b T vn va):w.cell? ⟨b,256,none⟩=some (.int .i64 (T.cells:Int)):=by
 rw [h.row.cell?,kK vn va h.cl 0];rfl
theorem qP.nx {w:World} {b:Nat} {T:TB} {vn va:OC} (h:qP w b T vn va):w.cell? ⟨b,257,none⟩=some vn.1:=by
 rw [h.row.cell?,kK vn va h.cl 1];rfl
theorem qP.ac {w:World} {b:Nat} {T:TB} {vn va:OC} (h:qP w b T vn va):w.cell? ⟨b,258,none⟩=some va.1:=by
 rw [h.row.cell?,kK vn va h.cl 2];rfl
theorem sF {w:World} {p:Option Addr} {n c:Nat} {l:List (List Nat)} (h:vU w (.slice p n c) l) (k:Nat) (hk:k<l.length):
  ∃b o q d,p=some ⟨b,o,none⟩∧n=l.length∧b<w.heap.size∧w.cell? ⟨b,o+k,none⟩=some (.slice q (l.getD k []).length d)∧Rd nV w (.slice q (l.getD k []).length d) (l.getD k []):=by
 have hs:=h.slice;obtain ⟨_,_,hs⟩:=hs;injection hs with _ hn _
 obtain ⟨b,o,u,rfl,hc,hr,_,hb⟩:=h.elem k hk;have e:l.getD k []=l[k]:=by rw [dD,bM hk];rfl
 rw [← e] at hr;obtain ⟨q,d,rfl⟩:=hr.slice;exact ⟨b,o,q,d,rfl,hn,hb,hc,hr⟩
theorem Yd (w:World) (C:Array Value) (T:TB) (hC:kL w C T) (hT:T.Ok):
  Calls Tryz.prog 228 #[.agg C] w fun e w'=>∃p c,e= .returned (.slice p T.reach.length c)∧Mem.Own nV w' w.heap.size 3 (.slice p T.reach.length c) T.reach∧Below w.heap.size w w':=by
 obtain ⟨⟨vn,jL⟩,⟨va,hva⟩,lq,h1,h2,h3⟩:=hC;obtain ⟨pn,kn,rfl⟩:=h1.slice;have HN:=af h1;have HT:=af hT;obtain ⟨n,Hn⟩:∃n,Hid (T.nx.length=n):=⟨_,af rfl⟩
 have g1:1≤n:=by rw [← Hn.out];exact hT.n1
 have g2:n≤65535:=by rw [← Hn.out];exact hT.nn
 have HR:Hid (T.reach=lV T.nx (n - 0) 0 [0]):=af (by rw [← Hn.out];rfl);rw [Hn.out] at HN lq;clear h1 h2 hT;have hT0:qP (w.alloc (.cells C 166)) w.heap.size T ⟨.slice pn n kn,jL⟩ ⟨va,hva⟩:=⟨Row.new _ _ (by rw [lq]),h3⟩
 have hB0:Below w.heap.size w (w.alloc (.cells C 166)):=(au _ _).alloc (ah _) _;have hS0:(w.alloc (.cells C 166)).heap.size=w.heap.size+1:=bR _ _;clear lq;go_enter Tryz.func228,Tryz.ntmps228;go_upto_region 1 with (fail);generalize (w.alloc (.cells C 166))=W at hT0 hB0 hS0 ⊢;have sH:=hT0.nx;obtain ⟨MB,nM⟩:∃C,Hid (C=((List.replicate n false).map Value.bool).toArray):=⟨_,af rfl⟩
 have hmk:∀w:World,(Instr.makeSlice 35 (.int .i64 (n:Int)) (.int .i64 (n:Int))).run Tryz.prog w= .ok (.slice (some ⟨w.heap.size,0,none⟩) n n) (w.alloc (.cells MB 4)):=fun w=>by rw [nM.out];exact RH w n (by omega)
 have hSb:Row Value.bool (W.alloc (.cells MB 4)) W.heap.size 4 (mg n []):=by
  have e:(List.replicate n false:List Bool)=mg n []:=by
   unfold mg;apply List.ext_getElem<;>simp
  rw [nM.out,e];exact Row.new _ _ rfl
 have hT1:qP (W.alloc (.cells MB 4)) w.heap.size T ⟨.slice pn n kn,jL⟩ ⟨va,hva⟩:=⟨hT0.row.alloc _,h3⟩
 have hB1:=ai hB0 (ah _) (.cells MB 4);have hS1:(W.alloc (.cells MB 4)).heap.size=w.heap.size+2:=by rw [bR,hS0]
 rw [hS0] at hSb;go_upto_region 2 with (fail);generalize (W.alloc (.cells MB 4))=W1 at hSb hT1 hB1 hS1 ⊢;clear hT0 hB0 hS0 sH hmk nM;clear W MB;obtain ⟨tb,dF⟩:∃tb,Hid (w.heap.size=tb):=⟨_,af rfl⟩
 rw [dF.out] at hSb hT1 hB1 hS1 ⊢;have cs0:W1.cell? ⟨tb+1,0,none⟩=some (.bool ((mg n []).getD 0 false)):=zg hSb 0 (by rw [uY];omega);have fs0:=hSb.frozen 0;have J7:=hSb.set 0 true;rw [Jw,J4] at J7;have P5:qP (W1.setCell ⟨tb+1,0,none⟩ (.bool true)) tb T ⟨.slice pn n kn,jL⟩ ⟨va,hva⟩:=⟨hT1.row.aj (by omega) 0 _,h3⟩
 have hB2:=aQ hB1 (b:=tb+1) 0 (by omega) (.bool true);have hS2:(W1.setCell ⟨tb+1,0,none⟩ (.bool true)).heap.size=tb+2:=by simp [hS1]
 have g1i:(0:Int)<(n:Int):=by omega
 go_upto_region 3 with (fail);generalize (W1.setCell ⟨tb+1,0,none⟩ (.bool true))=W2 at J7 P5 hB2 hS2 ⊢;clear hSb hT1 hB1 hS1 cs0 fs0;clear W1;have hO3:Mem.Own nV (W2.alloc (.cells #[.int .i64 0] 3)) W2.heap.size 3 (.slice (some ⟨W2.heap.size,0,none⟩) 1 1) [0]:=Own.new (l:=[0]) W2 _ W2.heap.size (ah _) rfl (by unfold maxLen;simp);have aad:=J7.alloc (.cells #[.int .i64 0] 3);have ZT:qP (W2.alloc (.cells #[.int .i64 0] 3)) tb T ⟨.slice pn n kn,jL⟩ ⟨va,hva⟩:=⟨P5.row.alloc _,h3⟩
 have hB3:=ai hB2 (Iq dF.out.symm) (.cells #[.int .i64 0] 3);have eP:tb+2≤(W2.alloc (.cells #[.int .i64 0] 3)).heap.size:=by rw [bR];omega
 rw [hS2] at hO3;go_upto_region 4 with (fail);generalize (W2.alloc (.cells #[.int .i64 0] 3))=W3 at hO3 aad ZT hB3 eP ⊢;clear J7 P5 hB2 hS2;clear W2;have hL3:=mP.one g1;have HRB:Hid (∀r∈T.nx,∀t∈r,t<n):=af (by rw [← Hn.out];exact HT.out.rb);go_wp2_with fail
 go_loopw [4,5] (fun s4 s5 wr=>∃(i:Nat) (l:List Nat) (pl:Option Addr) (kl:Nat),s4= .slice pl l.length kl∧s5= .int .i64 i∧Mem.Own nV wr (tb+2) 3 (.slice pl l.length kl) l∧Row Value.bool wr (tb+1) 4 (mg n l)∧qP wr tb T ⟨.slice pn n kn,jL⟩ ⟨va,hva⟩∧mP n l∧i≤l.length∧Hid (T.reach=lV T.nx (n - i) i l)∧Below tb w wr∧tb+2≤wr.heap.size) (fun _ s5 _=>n - (intOf s5).toNat)
 case atStart=>exact ⟨0,[0],_,_,rfl,rfl,hO3,aad,ZT,hL3,by omega,HR,hB3,eP⟩
 case round=>
  clear hO3 aad ZT hL3 hB3 eP HR g1i;obtain ⟨i,l,pl,kl,rfl,rfl,hO,hSb,uW,hL,hil,HR,hB,hS⟩:=hrel;have hln:=hL.len;have HL:=af hL;by_cases hlt:i<l.length
  ·have hq:(i:Int)<(l.length:Int):=by omega
   obtain ⟨g,rfl,hg1,hg2,hg3,hgc,afZ,hg4⟩:=hO.block (by omega);have cl:=Sq hO i hlt;have hs:l.getD i 0<n:=hL.lt _ (aO l i 0 hlt);have sH:=uW.nx;have hW1:Below w.heap.size w wr:=by rw [dF.out];exact hB
   obtain ⟨nb,no,rq,rd,rfl,hnn,hnb,hcr,hrow⟩:=sF HN.out (l.getD i 0) (by rw [Hn.out];exact hs);have cr:wr.cell? ⟨nb,no+l.getD i 0,none⟩=some (.slice rq (T.nx.getD (l.getD i 0) []).length rd):=(hW1.cell (p:=⟨nb,no+l.getD i 0,none⟩) hnb).trans hcr;have Ld:=af hrow;have hrm:(T.nx.getD (l.getD i 0) []).length≤256:=by rw [HT.out.rw _ (aO _ _ _ (by rw [Hn.out];exact hs))];exact HT.out.mF
   have BS:Hid (∀t∈T.nx.getD (l.getD i 0) [],t<n):=af (uK HRB.out _);have HST:=af (OX T.nx n i l hlt hln);rw [← HR.out] at HST;generalize l.getD i 0=s at *;generalize T.nx.getD s []=row at *;have hsi:(s:Int)<(n:Int):=by omega
   have hll:(l.length:Int)≤65535:=by omega
   clear hL hcr hrow afZ hnn hg3 hg4;go_wp2_with fail;go_quiet (fail);replace hO:Mem.Own nV (wr.drewN nq) (tb+2) 3 (.slice (some ⟨g,0,none⟩) l.length kl) l:=hO;replace hSb:Row Value.bool (wr.drewN nq) (tb+1) 4 (mg n l):=hSb;replace uW:qP (wr.drewN nq) tb T ⟨.slice (some ⟨nb,no,none⟩) n kn,jL⟩ ⟨va,hva⟩:=⟨uW.row,uW.cl⟩
   replace hB:Below tb w (wr.drewN nq):=⟨hB.os,hB.tape,hB.output,hB.size,hB.block⟩
   replace hS:tb+2≤(wr.drewN nq).heap.size:=hS;clear cl sH cr hg1 hg2 hgc hW1;generalize (wr.drewN nq)=W4 at hO hSb uW hB hS ⊢;clear wr;obtain ⟨m,Hm⟩:∃m,Hid (row.length=m):=⟨_,af rfl⟩
   rw [Hm.out] at Ld hrm ⊢;obtain ⟨l0,Hl0⟩:∃l0:List Nat,Hid (l=l0):=⟨_,af rfl⟩
   have hl0:l=oN l0 (row.take 0):=Hl0.out;have HL0:=af (show l0.length≤n by rw [← Hl0.out];exact hln);have HGE:=af (show i<l0.length by rw [← Hl0.out];exact hlt);rw [Hl0.out] at HST;go_wp2_with fail
   go_loopw [4,30] (fun s4 s30 wr=>∃(j:Nat) (l:List Nat) (pl:Option Addr) (kl:Nat),j≤m∧s4= .slice pl l.length kl∧s30= .int .i64 j∧Hid (l=oN l0 (row.take j))∧Mem.Own nV wr (tb+2) 3 (.slice pl l.length kl) l∧Row Value.bool wr (tb+1) 4 (mg n l)∧qP wr tb T ⟨.slice (some ⟨nb,no,none⟩) n kn,jL⟩ ⟨va,hva⟩∧mP n l∧Below tb w wr∧tb+2≤wr.heap.size) (fun _ s30 _=>m - (intOf s30).toNat)
   case atStart=>exact ⟨0,l,_,_,by omega,rfl,rfl,af hl0,hO,hSb,uW,HL.out,hB,hS⟩
   case round=>
    clear hO hSb uW hB hS hl0 HL hln hll hq hlt hil HR;obtain ⟨j,l2,pl,kl2,hj,rfl,rfl,HRI,hO,hSb,uW,hL,hB,hS⟩:=hrel;by_cases hjm:j<m
    ·have hq:(j:Int)<(m:Int):=by omega
     obtain ⟨rb,ro,rfl,hct⟩:=iT Ld.out j hjm;have ct:=hct wr (by rw [dF.out];exact hB);have hjl:j<row.length:=by rw [Hm.out];exact hjm
     have ht:row.getD j 0<n:=BS.out _ (aO _ _ _ hjl)
     have HSU:Hid (oN l0 (row.take (j+1))=addN l2 (row.getD j 0)):=af (by
      rw [HRI.out];unfold oN
      rw [dG _ _ _ _ hjl,dD,bM hjl];rfl)
     generalize row.getD j 0=t at *;have hti:(t:Int)<(n:Int):=by omega
     have cs:=zg hSb t (by rw [uY];exact ht);rw [Ym n l2 t ht] at cs;have fs:=hSb.frozen t;have hln:=hL.len;clear hct;by_cases hm:t∈l2
     ·rw [nE hm] at cs;have CW:Hid (l2=oN l0 (row.take (j+1))):=af (by rw [HSU.out,addN,aC hm]);go_wp2_with fail
      go_roundw
      case rel=>exact ⟨j+1,l2,_,_,by omega,rfl,by go_num,CW,hO,hSb,uW,hL,hB,hS⟩
      case measure=>simp [intOf];omega
     ·rw [jI hm] at cs;have CW:Hid (l2++[t]=oN l0 (row.take (j+1))):=af (by rw [HSU.out,addN,aF hm]);have hL1:=hL.add ht;rw [addN,aF hm] at hL1;have V8:=hSb.set t true;rw [Jw] at V8;have hT1:qP (wr.setCell ⟨tb+1,t,none⟩ (.bool true)) tb T ⟨.slice (some ⟨nb,no,none⟩) n kn,jL⟩ ⟨va,hva⟩:=⟨uW.row.aj (by omega) t _,uW.cl⟩
      have hB1:=aQ hB (b:=tb+1) t (by omega) (.bool true);have mE:=hO.kept (aI wr (tb+1) t (.bool true)) (fun g hg e=>by have:=(hO.lt g hg).1;injection e with e;omega);have hS1:tb+2≤(wr.setCell ⟨tb+1,t,none⟩ (.bool true)).heap.size:=by simpa using hS
      clear hSb uW hB hO hS HSU hm HRI;go_upto_region 12 with (fail);clear ct cs fs;generalize (wr.setCell ⟨tb+1,t,none⟩ (.bool true))=W5 at V8 hT1 hB1 mE hS1 ⊢;go_upto_region 13 with (at_builtin;(with_reducible refine eG Fy (.tmp 42) (.tmp 44) ?_ ?_ uQ ?_ mE t _ ?_ _ ?_ ?_ ?_ ?_ (l2++[t]) ?_ ?_);rfl;rfl;rfl;rfl;rfl;(omega);(omega);(exact hS1);rfl;(intro p2 c2 W6 hO2 hB2 hG2));have hne:∀b,b<tb+2→some b≠(Value.slice pl l2.length kl2).ownBlock:=fun b hb e=>by have:=(mE.lt b e.symm).1;omega
      have J7:=(V8.alloc (.cells #[.int .i64 (t:Int)] 3)).grown hG2 (hne _ (by omega));have P5:qP W6 tb T ⟨.slice (some ⟨nb,no,none⟩) n kn,jL⟩ ⟨va,hva⟩:=⟨(hT1.row.alloc (.cells #[.int .i64 (t:Int)] 3)).grown hG2 (hne _ (by omega)),hT1.cl⟩
      have hB3:=hB1.trans (hB2.mono (by omega));have hS2:=aL hS1 hB2.size;obtain ⟨l3,Hl3⟩:∃l3,Hid (l2++[t]=l3):=⟨_,af rfl⟩
      have hlen:l2.length+1=l3.length:=by rw [← Hl3.out];simp
      rw [Hl3.out] at hO2 J7 hL1 CW;rw [hlen];clear V8 hT1 hB1 mE hS1 hB2 hG2 hne;go_wp2_with fail
      go_roundw
      case rel=>exact ⟨j+1,l3,_,_,by omega,rfl,by go_num,CW,hO2,J7,P5,hL1,hB3,hS2⟩
      case measure=>simp [intOf];omega
    ·have hq:¬(j:Int)<(m:Int):=by omega
     have agX:j=m:=by omega
     have o9:Hid (T.reach=lV T.nx (n - (i+1)) (i+1) l2):=af (by
      rw [HST.out,HRI.out,agX,← Hm.out,Qr])
     have hge:l0.length≤l2.length:=by
      have h:=YV (row.take j) l0;rw [← HRI.out] at h;exact h
     have hi2:=HGE.out;have hl2:=hL.len;clear HST HRI;go_wp2_with fail
     go_roundw
     case rel=>exact ⟨i+1,l2,_,_,rfl,by go_num,hO,hSb,uW,hL,by omega,o9,hB,hS⟩
     case measure=>simp [intOf];omega
  ·have hq:¬(i:Int)<(l.length:Int):=by omega
   have HE:Hid (T.reach=l):=af (by rw [HR.out];exact QH _ _ _ _ (by omega));go_wp2;go_ret;refine ⟨pl,kl,by rw [HE.out];rfl,?_,by rw [dF.out];exact hB⟩;rw [HE.out,dF.out];exact hO.mono (by omega)
end
end Go.Proofs.YtncnfncglacheaaGreatDoor
