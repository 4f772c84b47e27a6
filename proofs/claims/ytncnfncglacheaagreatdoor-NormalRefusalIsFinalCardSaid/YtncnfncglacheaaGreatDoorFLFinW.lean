/- Part of a proof. -/
import Derived.Test.YtncnfncglacheaaGreatDoorFInvN
import Derived.Test.YtncnfncglacheaaGreatDoorFEvSan
import Derived.Deep.CutBlock
import Derived.Lib.SlBytesConst
set_option linter.all false
set_option maxRecDepth 100000
set_option maxHeartbeats 64000000
namespace Go.Proofs.YtncnfncglacheaaGreatDoor
open Go.RowKit Mem
theorem VS:bU Tryz.prog 37 3:=⟨fun _=>by kernel_rfl,fun _=>by kernel_rfl⟩
theorem Pt:bU Tryz.prog 32 6:=⟨fun _=>by kernel_rfl,fun _=>by kernel_rfl⟩
theorem VG:bU Tryz.prog 27 2:=⟨fun _=>by kernel_rfl,fun _=>by kernel_rfl⟩
theorem NZ.XC (N:NZ) (bs:List UInt8):∀s:sK,s.ref=true→N.run s bs=s:=by
 induction bs with
 | nil=>intro s _;rfl
 | cons b bs ih=>
  intro s hs;have:N.step s b=s:=by unfold NZ.step;rw [hs];rfl
  show N.run (N.step s b) bs=s;rw [this];exact ih s hs
theorem adJ (hS:Ev.Tf) (w:World) (p1 p2:Option Addr) (c1 c2:Nat) (l b:List UInt8) (x y:UInt8) (h1:Rd aV w (.slice p1 l.length c1) l) (h2:Rd aV w (.slice p2 b.length c2) b) (hbn:b.length≤140737488351232) (hT:iw w) (htl:1<w.heap.size):
  Calls Tryz.prog 4 #[.slice p1 l.length c1, .agg #[.int .u8 (x.toNat:Int), .int .u8 (y.toNat:Int)], .slice p2 b.length c2] w fun e w'=>e= .returned (.bool true)∧Below w.heap.size w w':=by
 obtain ⟨xv,hxv⟩:∃xv:Int,(x.toNat:Int)=xv:=⟨_,rfl⟩
 obtain ⟨yv,hyv⟩:∃yv:Int,(y.toNat:Int)=yv:=⟨_,rfl⟩
 have hx0:0≤xv∧xv<256:=by have:=x.toNat_lt;omega
 have hy0:0≤yv∧yv<256:=by have:=y.toNat_lt;omega
 rw [hxv,hyv];clear hxv hyv;have HR1:=af h1;have HR2:=af h2;obtain ⟨ll,Hll⟩:∃n,Hid (l.length=n):=⟨_,af rfl⟩
 obtain ⟨bl,yV⟩:∃n,Hid (b.length=n):=⟨_,af rfl⟩
 rw [Hll.out,yV.out];clear h1 h2;go_enter Tryz.func4,Tryz.ntmps4;go_wp2_with fail;have hba:Below w.heap.size w (w.alloc (.cells #[.int .u8 xv, .int .u8 yv] 46)):=ai (au _ _) (ah _) _;have hr4:(w.alloc (.cells #[.int .u8 xv, .int .u8 yv] 46)).heap[w.heap.size]?=some (.cells #[.int .u8 xv, .int .u8 yv] 46 (0,0)):=World.alloc_heap_new _ _;have hl4:w.heap.size<(w.alloc (.cells #[.int .u8 xv, .int .u8 yv] 46)).heap.size:=by simp
 generalize (w.alloc (.cells #[.int .u8 xv, .int .u8 yv] 46))=W0 at *
 have HP4:Hid (∀X,Below W0.heap.size W0 X→X.cell? ⟨w.heap.size,0,none⟩=some (.int .u8 xv)∧X.cell? ⟨w.heap.size,1,none⟩=some (.int .u8 yv)):=af fun X hX=>by
  have h1:=(hX.block w.heap.size hl4).trans hr4;refine ⟨?_,?_⟩<;>(unfold World.cell?;rw [h1];rfl)
 have Xy:=af (And.intro hT htl);clear hr4 hT htl;refine (Ev.acB W0 (aL Xy.out.2 hba.size)).mono ?_;rintro e W1 ⟨rfl,hB1⟩;go_wp2_with fail;have hBW1:=hba.trans (hB1.mono hba.size);have hcl:=adB W1 p1 c1 l (HR1.out.below hBW1);rw [Hll.out] at hcl;refine hcl.mono ?_;clear hcl;rintro e W2 ⟨B,g,pr,pe,kr,ke,us,rfl,hN,rV⟩;have Me:nJ W2 (.agg #[.slice (some ⟨g,0,none⟩) 3 3, .slice pr (bD l) kr, .slice pe (bD l) ke]) (made l):=hN.nz rfl;have hB2:Below W1.heap.size W1 W2:=hN.low;obtain ⟨s,Hs⟩:∃n,Hid (bD l=n):=⟨_,af rfl⟩
 rw [Hs.out] at Me ⊢;clear hN rV;have MC:Hid ((made l).cls.length=3∧(made l).rows.length=s∧(made l).ends.length=s):=af ⟨rfl,by rw [← Hs.out];exact jo _ _,by rw [← Hs.out];exact dW _ _⟩;have hval:=af (R3 l);have jr:=af (YJ l);have hs1:1≤s:=by rw [← Hs.out];exact (xG l).1
 clear Hs;generalize made l=N at *;have hz:Row oV (W2.alloc (.cells #[.slice none 0 0, .slice none 0 0, .slice none 0 0] 37)) W2.heap.size 37 [on,on,on]:=Row.new _ _ rfl;have abV:Below W2.heap.size W2 (W2.alloc (.cells #[.slice none 0 0, .slice none 0 0, .slice none 0 0] 37)):=(au _ _).alloc (ah _) _;go_upto_region 3 with ((with_reducible refine zS (l':=[⟨.slice (some ⟨g,0,none⟩) 3 3,rfl⟩,⟨.slice pr s kr,rfl⟩,⟨.slice pe s ke,rfl⟩]) hz VS ?_);(intro W3 hs3 hG3 hz3));have hB3:Below W2.heap.size W2 W3:=abV.grown hG3 abV.size (fun k e=>by cases e;exact ah _);have hN3:=Me.below hB3;have hn9:=hs3.lt;have abr:=hB2.trans (hB3.mono hB2.size);have HN:Hid (∀Z:World,Below W3.heap.size W3 Z→Row oV Z W2.heap.size 37 [⟨.slice (some ⟨g,0,none⟩) 3 3,rfl⟩,⟨.slice pr s kr,rfl⟩,⟨.slice pe s ke,rfl⟩]∧nJ Z (.agg #[.slice (some ⟨g,0,none⟩) 3 3, .slice pr s kr, .slice pe s ke]) N):=af fun Z hZ=>⟨hs3.below hZ hn9,hN3.below hZ⟩;have MV:=hBW1.trans (abr.mono hBW1.size);have aaY:Below W0.heap.size W0 W3:=hB1.trans (abr.mono hB1.size);clear hz abV hba hG3 hz3 hs3 hN3 Me hB3 hB2 abr hB1 hBW1;generalize W2.heap.size=n8 at *;have r8:=(HN.out _ (au _ _)).1;rw [FI];go_wp2_with ((with_reducible refine zL r8.at VS rfl (C:=#[.slice (some ⟨g,0,none⟩) 3 3, .slice pr s kr, .slice pe s ke]) ?_));have hc:=WK W3 N (some ⟨g,0,none⟩) pr pe p2 3 kr ke c2 0 true b;have hr2:=HR2.out.below MV;rw [yV.out] at hr2;rw [MC.out.1,MC.out.2.1,MC.out.2.2,yV.out] at hc;refine (hc (HN.out _ (au _ _)).2 hr2 (by rw [← yV.out];exact hbn) (fun _=>jr.out)).mono ?_;clear hc r8;rintro e W4 ⟨hB4,hres⟩
 obtain ⟨po,ko,rfl⟩:∃po ko,e= .returned (.tuple #[.agg #[.int .i64 0, .bool true], .slice po 0 ko]):=by
  rcases hres with ⟨h,_⟩ | ⟨_,sx,hsx,po,ko,h,_⟩
  ·exfalso
   have:N.kQ 0=true:=by
    unfold NZ.kQ;rw [hval.out,MC.out.2.1];simp;omega
   rw [this] at h;cases h
  ·have e1:sx=⟨0,true,[]⟩:=by rw [hsx.out,NZ.XC _ _ _ rfl];rfl
   subst e1;exact ⟨po,ko,h⟩
 clear hres;have JE:=MV.trans (hB4.mono MV.size);have acU:=aaY.trans (hB4.mono aaY.size);go_upto_region 4 with (fail);have Y2:(W4.alloc (.cells #[.int .i64 0, .bool true] 48)).heap[W4.heap.size]?=some (.cells #[.int .i64 0, .bool true] 48 (0,0)):=World.alloc_heap_new _ _;have hl9:W4.heap.size<(W4.alloc (.cells #[.int .i64 0, .bool true] 48)).heap.size:=by simp
 have zU:Below W4.heap.size W4 (W4.alloc (.cells #[.int .i64 0, .bool true] 48)):=ai (au _ _) (ah _) _;have abj:Below W3.heap.size W3 (W4.alloc (.cells #[.int .i64 0, .bool true] 48)):=hB4.trans (zU.mono hB4.size);have KY:=JE.trans (zU.mono JE.size);have ab1:=acU.trans (zU.mono acU.size);clear zU hB4 JE acU hr2;generalize (W4.alloc (.cells #[.int .i64 0, .bool true] 48))=W5 at *;generalize W4.heap.size=n9 at *;clear W4;refine O1 (nX W5.heap.size) (nX.drew _) (fun a b c=>nX.trans) 11 [35,36,37,38,39,40,41,42,43,44,11] (Yz W5.heap.size w.heap.size xv yv) rfl (by kernel_rfl) (by kernel_rfl) (fun i v x x' h hM=>h.mk hM) ?_ ?_
 ·intro i o hi ho a x hold hd hMR;have hn:W5.heap.size≤x.heap.size:=hMR.low.size;obtain ⟨hc0,hc1⟩:=HP4.out x (ab1.trans (hMR.low.mono ab1.size));have hTx:iw x:=Xy.out.1.below (KY.trans (hMR.low.mono KY.size)) Xy.out.2;have htx:1<x.heap.size:=bO Xy.out.2 (aL KY.size hn);have h4:∀k,k∉[35,36,37,38,39,40,41,42,43,44,11]→a.tmps.getD k undef=_:=hold
  match i,hi,ho with
  | 0,_,ho=>
   obtain rfl:=dJ ho;have hx:a.eval (.tmp 4)= .pointer (some ⟨w.heap.size,0,none⟩):=by show a.tmps.getD 4 undef=_;rw [hold 4 (by decide)];rfl
   have hy:a.tmps[4]?.getD undef= .pointer (some ⟨w.heap.size,0,none⟩):=by rw [← si];exact hx
   refine aB (v:= .pointer (some ⟨w.heap.size,0,none⟩)) (w':=x) ?_ ⟨_,rfl,rfl,nX.refl _⟩;go_simp
  | 1,_,ho=>
   obtain rfl:=dJ ho;have hx:a.eval (.tmp 35)= .pointer (some ⟨w.heap.size,0,none⟩):=hd 0 (by kernel_rfl);have hy:a.tmps[35]?.getD undef= .pointer (some ⟨w.heap.size,0,none⟩):=by rw [← si];exact hx
   refine aB (v:= .int .u8 xv) (w':=x) ?_ ⟨_,rfl,rfl,nX.refl _⟩;go_simp
  | 2,_,ho=>
   obtain rfl:=dJ ho;have hx:a.eval (.tmp 36)= .int .u8 xv:=hd 1 (by kernel_rfl);refine iY (g:=8) (args:= #[a.eval (.tmp 36)]) rfl (by first | rfl | kernel_rfl) ?_;rw [hx];refine (hS x xv hx0 hTx htx).mono ?_;rintro e x' ⟨ss,bs,ρ,rfl,hM,hB⟩;exact ⟨_,rfl,_,rfl,⟨ss,bs,ρ,rfl,hM⟩,nX.of_below hB hn⟩
  | 3,_,ho=>
   obtain rfl:=dJ ho;have hx:a.eval (.tmp 4)= .pointer (some ⟨w.heap.size,0,none⟩):=by show a.tmps.getD 4 undef=_;rw [hold 4 (by decide)];rfl
   have hy:a.tmps[4]?.getD undef= .pointer (some ⟨w.heap.size,0,none⟩):=by rw [← si];exact hx
   refine aB (v:= .pointer (some ⟨w.heap.size,1,none⟩)) (w':=x) ?_ ⟨_,rfl,rfl,nX.refl _⟩;go_simp
  | 4,_,ho=>
   obtain rfl:=dJ ho;have hx:a.eval (.tmp 38)= .pointer (some ⟨w.heap.size,1,none⟩):=hd 3 (by kernel_rfl);have hy:a.tmps[38]?.getD undef= .pointer (some ⟨w.heap.size,1,none⟩):=by rw [← si];exact hx
   refine aB (v:= .int .u8 yv) (w':=x) ?_ ⟨_,rfl,rfl,nX.refl _⟩;go_simp
  | 5,_,ho=>
   obtain rfl:=dJ ho;have hx:a.eval (.tmp 39)= .int .u8 yv:=hd 4 (by kernel_rfl);refine iY (g:=8) (args:= #[a.eval (.tmp 39)]) rfl (by first | rfl | kernel_rfl) ?_;rw [hx];refine (hS x yv hy0 hTx htx).mono ?_;rintro e x' ⟨ss,bs,ρ,rfl,hM,hB⟩;exact ⟨_,rfl,_,rfl,⟨ss,bs,ρ,rfl,hM⟩,nX.of_below hB hn⟩
  | 6,_,ho=>
   obtain rfl:=dJ ho;exact aB (v:= .slice (some ⟨x.heap.size,0,none⟩) 2 2) (w':=x.alloc (.cells #[.int .u8 97, .int .u8 98] 5)) (by first | rfl | kernel_rfl) ⟨_,rfl,⟨_,rfl,hn,_,World.alloc_heap_new _ _, .inl rfl⟩,nX.of_below ((au _ _).alloc (ah _) _) hn⟩
  | 7,_,ho=>
   obtain rfl:=dJ ho;obtain ⟨p,hx,hp⟩:∃p,a.eval (.tmp 41)=sl2 p∧Ba W5.heap.size x p:=hd 6 (by kernel_rfl);have hs:x.shape? p=some (5,2):=by obtain ⟨_,k,h,_⟩:=hp;unfold World.shape?;rw [h];rfl
   have hrun:=acQ (P:=Tryz.prog) x 22 5 p 0 2 2 2 Tryz.underlying22 Tryz.underlying5 hs;have hM:=hp.freeze;refine aB (v:=sl2 p) (w':=x.freeze ⟨p,2,none⟩ 1) ?_ ⟨_,rfl,⟨p,rfl,hp.mk hM⟩,hM⟩;unfold execOp;simp only [hx,dR,hrun,fT,iB]
  | 8,_,ho=>
   obtain rfl:=dJ ho;obtain ⟨p,hx,hp⟩:∃p,a.eval (.tmp 42)=sl2 p∧Ba W5.heap.size x p:=hd 7 (by kernel_rfl);have hy:a.tmps[42]?.getD undef=sl2 p:=by rw [← si];exact hx
   refine aB (v:= .agg #[sl2 p, .int .i64 3]) (w':=x) ?_ ⟨_,rfl,⟨p,rfl,hp⟩,nX.refl _⟩;go_simp
  | 9,_,ho=>
   obtain rfl:=dJ ho;obtain ⟨sa,ba,ρa,hxa,hpa⟩:∃(ss bs:Sl) (ρ:List UInt8→fC),a.eval (.tmp 37)= .agg #[ss.v,bs.v]∧Oe (a.eval (.tmp 37)) x ρ:=hd 2 (by kernel_rfl);obtain ⟨sb,bb,ρb,hxb,hpb⟩:∃(ss bs:Sl) (ρ:List UInt8→fC),a.eval (.tmp 40)= .agg #[ss.v,bs.v]∧Oe (a.eval (.tmp 40)) x ρ:=hd 5 (by kernel_rfl);obtain ⟨p,hx,hp⟩:∃p,a.eval (.tmp 43)= .agg #[sl2 p, .int .i64 3]∧Ba W5.heap.size x p:=hd 8 (by kernel_rfl);have hya:a.tmps[37]?.getD undef= .agg #[sa.v,ba.v]:=by rw [← si];exact hxa
   have hyb:a.tmps[40]?.getD undef= .agg #[sb.v,bb.v]:=by rw [← si];exact hxb
   have hy:a.tmps[43]?.getD undef= .agg #[sl2 p, .int .i64 3]:=by rw [← si];exact hx
   rw [hxa] at hpa;rw [hxb] at hpb;refine aB (v:= .agg #[sa.v,ba.v,sb.v,bb.v,sl2 p, .int .i64 3]) (w':=x) ?_ ⟨_,rfl,⟨sa,ba,sb,bb,ρa,ρb,p,rfl,hpa,hpb,hp⟩,nX.refl _⟩;go_simp
  | 10,_,ho=>
   obtain rfl:=dJ ho;exact aB (v:= .pointer (some ⟨x.heap.size,0,none⟩)) (w':=x.alloc (.cells #[.slice none 0 0, .slice none 0 0, .slice none 0 0, .slice none 0 0, .slice none 0 0, .int .i64 0] 32)) (by first | rfl | kernel_rfl) ⟨_,rfl,⟨_,rfl,Row.new _ _ rfl,hn⟩,nX.of_below ((au _ _).alloc (ah _) _) hn⟩
 intro vs X hvl rC hMR;obtain ⟨v0,v1,v2,v3,v4,v5,v6,v7,v8,v9,v10,rfl⟩:=adC vs hvl;obtain ⟨sa,ba,sb,bb,ρa,ρb,qb,hv9,hPA,hPB,hPW⟩:Yz W5.heap.size w.heap.size xv yv 9 v9 X:=rC 9 (by decide);obtain ⟨q,NV,hrow,XG⟩:Yz W5.heap.size w.heap.size xv yv 10 v10 X:=rC 10 (by decide);subst hv9 NV;clear rC hvl;have HX:=af (And.intro hPA (And.intro hPB (And.intro hPW (And.intro hMR XG))));have HU5:=af KY;clear hPA hPB hPW hMR KY ab1 HP4 aaY MV;simp only [Mem.eu,zZ,Cy,yh,List.drop];go_upto_region 5 with ((with_reducible refine zS (l':=quL sa ba sb bb qb) hrow Pt ?_);(intro Y Zr hGq hzq));obtain ⟨hPA,hPB,hPW,hMR,XG⟩:=HX.out;have hqg:Ev.gN≤q:=aL (aL Xy.out.2 HU5.out.size) XG;have rW:=XH hrow Zr hGq hqg;obtain ⟨hra,hca⟩:=hPA Y rW;obtain ⟨hrb,hcb⟩:=hPB Y rW;have Qp:Below W5.heap.size W5 Y:=hMR.low.grown hGq hMR.low.size (fun g' e=>by cases e;exact XG)
 have hPY:Ba W5.heap.size Y qb:=by
  obtain ⟨h0,k,h1,h2⟩:=hPW;refine ⟨h0,k,(hGq.block qb (jg.1 h1).1 ?_).trans h1,h2⟩;intro e;injection e with e
  subst e;unfold Row at hrow;rw [hrow] at h1;cases h1
 have hab:=hPY.rd;obtain ⟨m0,Z8⟩:∃n,Hid (Y.heap.size=n):=⟨_,af rfl⟩
 rw [Z8.out] at hra hrb;have hql:=Zr.lt;have HQ:Hid (∀Z:World,Below Y.heap.size Y Z→QAt m0 q qb sa ba sb bb ρa ρb Z):=af fun Z hZ=>⟨Zr.below hZ hql,hab.below hZ,hra.below hZ,hca.below hZ,hrb.below hZ,hcb.below hZ⟩;have adU:qb<Y.heap.size:=by obtain ⟨_,k,h,_⟩:=hPY;exact (jg.1 h).1
 have h3Y:=abj.trans (Qp.mono abj.size)
 have HNY:Hid (∀Z:World,Below Y.heap.size Y Z→NAt n8 n9 g pr pe s kr ke N Z):=af fun Z hZ=>
  ⟨(HN.out Z (h3Y.trans (hZ.mono h3Y.size))).1,(HN.out Z (h3Y.trans (hZ.mono h3Y.size))).2,((Qp.trans (hZ.mono Qp.size)).block n9 hl9).trans Y2⟩
 have acD:Hid (Below w.heap.size w Y):=af (HU5.out.trans (Qp.mono HU5.out.size));have aer:Hid (qb<m0):=af (by rw [← Z8.out];exact adU);have q4:Y.cell? ⟨q,4,none⟩=some (.slice (some ⟨qb,0,none⟩) 2 2):=by rw [Zr.cell?];rfl
 have q5:Y.cell? ⟨q,5,none⟩=some (.int .i64 3):=by rw [Zr.cell?];rfl
 clear hPA hPB hPW hMR XG rW hra hca hrb hcb Qp hPY hql adU h3Y abj HN Y2 hl9 HX HU5 hrow Zr hGq hzq hqg Xy hn9;go_wp2_with fail;have hc:=PZ Y (some ⟨qb,0,none⟩) 2 ab 3 hab (by decide) (by omega) (by rw [VP];omega);refine hc.mono ?_;clear hc q4 q5 hab;rintro e W6 ⟨pw,cw,rfl,hLv,gH⟩;have HW3:=af UA;have HWN:Hid (Sc.upTo ab (3+1)=Sc.upTo ab (3+1)):=af rfl;generalize hws:Sc.upTo ab (3+1)=ws at *;replace HWN:=af hws;have hwl:ws.length≤15:=by rw [← hws];exact Iq VP
 clear hws;have HW:=af hLv;have hmY:m0≤Y.heap.size:=Iq Z8.out.symm;have hm6:m0≤W6.heap.size:=by rw [← Z8.out];exact gH.size
 have aeb:Hid (Below w.heap.size w W6):=af (acD.out.trans (gH.mono acD.out.size));have Yv:Hid (∀Z:World,Below W6.heap.size W6 Z→QAt m0 q qb sa ba sb bb ρa ρb Z):=af fun Z hZ=>HQ.out Z (gH.trans (hZ.mono gH.size));have HNZ:Hid (∀Z:World,Below W6.heap.size W6 Z→NAt n8 n9 g pr pe s kr ke N Z):=af fun Z hZ=>HNY.out Z (gH.trans (hZ.mono gH.size));clear HQ HNY acD gH hLv Z8;have hX0:=af (au W6.heap.size W6);go_wp2_with fail
 go_loopw [13,14] (fun s13 Ua wx=>∃k:Nat,k≤ws.length∧s13= .int .i64 (iI ρa ρb (ws.take k):Nat)∧Ua= .int .i64 k∧Below W6.heap.size W6 wx) (fun _ i _=>ws.length - (intOf i).toNat)
 case atStart=>exact ⟨0,by omega,by simp [iI],rfl,hX0.out⟩
 case round=>
  clear hX0;obtain ⟨k,hk,rfl,rfl,hb⟩:=hrel;have ahj:iI ρa ρb (ws.take k)≤15:=aL List.countP_le_length (by rw [LV];omega);have HAK:Hid (∀h:k<ws.length,iI ρa ρb (ws.take (k+1))=iI ρa ρb (ws.take k)+(if (ρa ws[k]).alike (ρb ws[k]) then 1 else 0)):=af fun h=>Qg ρa ρb ws k h;have HAE:Hid (¬k<ws.length→iI ρa ρb (ws.take k)=iI ρa ρb ws):=af fun h=>by rw [qj (by omega)]
  generalize iI ρa ρb (ws.take k)=A at *;by_cases hlt:k<ws.length
  ·have hq:(k:Int)<(ws.length:Int):=by omega
   obtain ⟨bw,qw,mw,kw,rfl,hcc,hmw,DW⟩:=HW.out.elem k hlt;subst hmw;have hbw:=(HW.out.row bw rfl).2;have hfr:=DW.fresh (m0:=m0) hmY;have HCE:Hid (∀Z,Below W6.heap.size W6 Z→Z.cell? ⟨bw,k,none⟩=some (.slice qw (ws[k]'hlt).length kw)∧oK m0 Z (.slice qw (ws[k]'hlt).length kw) ws[k]):=af fun Z hZ=>⟨(hZ.cell (p:=⟨bw,k,none⟩) hbw).trans hcc,hfr.below hZ⟩;have hwk:=af (HW3.out (ws[k]'hlt) (pJ hlt));replace HAK:=af (HAK.out hlt);clear HAE hcc DW hbw hfr;generalize hxw:ws[k]'hlt=xw at *;clear hxw;go_wp2_with fail;have OA:=Yv;have Qi:=HCE;go_cut [15,16] (fun s15 s16 wx=>∃(b:Nat) (p:Option Addr) (n c:Nat),s15= .pointer (some ⟨b,0,none⟩)∧s16= .int .i64 0∧Below W6.heap.size W6 wx∧Hid (WH b p n c (ρa xw) wx)∧b<wx.heap.size∧(ρa xw).fs.length≤16)
   ·refine wp_region_held_drew (S:=fun Z=>Below W6.heap.size W6 Z) rfl hb.drew fun hS=> ?_;refine dY 0 55 (.pointer (some ⟨q,0,none⟩)) hS ?_;refine dY 1 56 (.agg #[.slice sa.p sa.n sa.c, .slice ba.p ba.n ba.c]) hS ?_ rfl (aA (f:=oV) (l:=[⟨.slice sa.p sa.n sa.c,rfl⟩,⟨.slice ba.p ba.n ba.c,rfl⟩]) VG (.tmp 55) rfl q 0 rfl (fun Z h=>(quA (OA.out Z h).1).1) rfl rfl);refine dY 2 57 (.slice (some ⟨bw,0,none⟩) ws.length cw) hS ?_;refine dY 3 58 (.int .i64 k) hS ?_;refine dY 4 59 (.pointer (some ⟨bw,0+k,none⟩)) hS ?_ rfl yg;refine dY 5 60 (.slice qw xw.length kw) hS ?_ rfl (qi fun Z h=>by have q0:=(Qi.out Z h).1;go_simp);refine wpAnyH_ready (rs:=[6,10]) (by kernel_rfl) (by simp) (AllReadyH.cons rfl (fun Ka hKa=> ?_) (AllReadyH.cons rfl (fun Kb hKb=> ?_) AllReadyH.nil))
    ·skip
     refine cD 61 14 #[.agg #[.slice sa.p sa.n sa.c, .slice ba.p ba.n ba.c], .slice qw xw.length kw] ?_;have hrd:=(OA.out _ hS).2.2.1;refine (hrd _ (au _ _) _ xw hwk.out (Qi.out _ hS).2).mono ?_;rintro e A1 ⟨rv,rfl,J3,Je,hBx⟩;obtain ⟨p,n,c,rfl⟩:=pU J3;replace hS:=hS.trans (hBx.mono hS.size);refine ⟨_,rfl,hKa.out _ _ hS fun _=> ?_⟩;simp only [sA,sB,sC];refine dY 7 54 (.tuple #[.agg #[.bool (ρa xw).ok, .int .i64 (ρa xw).code, .slice p n c], .int .i64 0]) hS ?_;refine dY 8 62 (.agg #[.bool (ρa xw).ok, .int .i64 (ρa xw).code, .slice p n c]) hS ?_;refine dY 9 63 (.int .i64 0) hS ?_;refine wU 10 (fun Kc hKc=> ?_);refine VU 15 (fun A2 hz hb2=> ?_);have hle:=hS.size;replace hS:=hS.trans (hb2.mono hS.size);have acC:=J3.below hb2;refine hKc.out _ _ hS fun _=> ?_;simp only [sA,sB,sC];refine wU 11 (fun Kd UW=> ?_);refine VX 15 62 hz acC (fun A3 hl3 hG3 hRS=> ?_);replace hS:Below W6.heap.size W6 A3:=hS.grown hG3 hS.size (fun g e=>by cases e;omega);refine UW.out _ _ hS fun _=> ?_;refine dY 12 16 (.int .i64 0) hS ?_;refine wpAnyH_done (by kernel_rfl) ?_ _;go_wp2;go_meet;exact ⟨A1.heap.size,p,n,c,rfl,rfl,hS,af hRS,hl3,Je⟩
    ·skip
     refine VU 15 (fun A2 hz hb2=> ?_);have hle:=hS.size;replace hS:=hS.trans (hb2.mono hS.size);refine hKb.out _ _ hS fun _=> ?_;simp only [sA,sB,sC];have hzl:=hz.lt;generalize wr.drew.heap.size=bz at *;refine wU 6 (fun Kc hKc=> ?_);refine cD 61 14 #[.agg #[.slice sa.p sa.n sa.c, .slice ba.p ba.n ba.c], .slice qw xw.length kw] ?_;have hrd:=(OA.out _ hS).2.2.1;refine (hrd _ (au _ _) _ xw hwk.out (Qi.out _ hS).2).mono ?_;rintro e A1 ⟨rv,rfl,J3,Je,hBx⟩;obtain ⟨p,n,c,rfl⟩:=pU J3;have hz1:=hz.below hBx hzl;replace hS:=hS.trans (hBx.mono hS.size);refine ⟨_,rfl,hKc.out _ _ hS fun _=> ?_⟩;simp only [sA,sB,sC];refine dY 7 54 (.tuple #[.agg #[.bool (ρa xw).ok, .int .i64 (ρa xw).code, .slice p n c], .int .i64 0]) hS ?_;refine dY 8 62 (.agg #[.bool (ρa xw).ok, .int .i64 (ρa xw).code, .slice p n c]) hS ?_;refine dY 9 63 (.int .i64 0) hS ?_;refine wU 11 (fun Kd UW=> ?_);refine VX 15 62 hz1 J3 (fun A3 hl3 hG3 hRS=> ?_);replace hS:Below W6.heap.size W6 A3:=hS.grown hG3 hS.size (fun g e=>by cases e;omega);refine UW.out _ _ hS fun _=> ?_;refine dY 12 16 (.int .i64 0) hS ?_;refine wpAnyH_done (by kernel_rfl) ?_ _;go_wp2;go_meet;exact ⟨bz,p,n,c,rfl,rfl,hS,af hRS,hl3,Je⟩
   obtain ⟨ba1,pa1,na1,ca1,rfl,rfl,hb2,HR1,ahp,hl1⟩:=hcut;clear OA Qi;have OA:Hid (∀Z:World,Below wc.heap.size wc Z→QAt m0 q qb sa ba sb bb ρa ρb Z):=af fun Z hZ=>Yv.out Z (hb2.trans (hZ.mono hb2.size));have Qi:Hid (∀Z,Below wc.heap.size wc Z→Z.cell? ⟨bw,k,none⟩=some (.slice qw xw.length kw)∧oK m0 Z (.slice qw xw.length kw) xw):=af fun Z hZ=>HCE.out Z (hb2.trans (hZ.mono hb2.size));go_wp2_with fail;go_cut [17,18] (fun s15 s16 wx=>∃(b:Nat) (p:Option Addr) (n c:Nat),s15= .pointer (some ⟨b,0,none⟩)∧s16= .int .i64 0∧Below wc.heap.size wc wx∧Hid (WH b p n c (ρb xw) wx)∧b<wx.heap.size∧(ρb xw).fs.length≤16)
   ·refine wp_region_held_drew (S:=fun Z=>Below wc.heap.size wc Z) rfl (au wc.heap.size wc).drew fun hS=> ?_;refine dY 0 65 (.pointer (some ⟨q,2,none⟩)) hS ?_;refine dY 1 66 (.agg #[.slice sb.p sb.n sb.c, .slice bb.p bb.n bb.c]) hS ?_ rfl (aA (f:=oV) (l:=[⟨.slice sb.p sb.n sb.c,rfl⟩,⟨.slice bb.p bb.n bb.c,rfl⟩]) VG (.tmp 65) rfl q 2 rfl (fun Z h=>(quA (OA.out Z h).1).2) rfl rfl);refine dY 2 67 (.slice (some ⟨bw,0,none⟩) ws.length cw) hS ?_;refine dY 3 68 (.int .i64 k) hS ?_;refine dY 4 69 (.pointer (some ⟨bw,0+k,none⟩)) hS ?_ rfl yg;refine dY 5 70 (.slice qw xw.length kw) hS ?_ rfl (qi fun Z h=>by have q0:=(Qi.out Z h).1;go_simp);refine wpAnyH_ready (rs:=[6,10]) (by kernel_rfl) (by simp) (AllReadyH.cons rfl (fun Ka hKa=> ?_) (AllReadyH.cons rfl (fun Kb hKb=> ?_) AllReadyH.nil))
    ·skip
     refine cD 71 14 #[.agg #[.slice sb.p sb.n sb.c, .slice bb.p bb.n bb.c], .slice qw xw.length kw] ?_;have hrd:=(OA.out _ hS).2.2.2.2.1;refine (hrd _ (au _ _) _ xw hwk.out (Qi.out _ hS).2).mono ?_;rintro e A1 ⟨rv,rfl,J3,Je,hBx⟩;obtain ⟨p,n,c,rfl⟩:=pU J3;replace hS:=hS.trans (hBx.mono hS.size);refine ⟨_,rfl,hKa.out _ _ hS fun _=> ?_⟩;simp only [sA,sB,sC];refine dY 7 64 (.tuple #[.agg #[.bool (ρb xw).ok, .int .i64 (ρb xw).code, .slice p n c], .int .i64 0]) hS ?_;refine dY 8 72 (.agg #[.bool (ρb xw).ok, .int .i64 (ρb xw).code, .slice p n c]) hS ?_;refine dY 9 73 (.int .i64 0) hS ?_;refine wU 10 (fun Kc hKc=> ?_);refine VU 17 (fun A2 hz hb2=> ?_);have hle:=hS.size;replace hS:=hS.trans (hb2.mono hS.size);have acC:=J3.below hb2;refine hKc.out _ _ hS fun _=> ?_;simp only [sA,sB,sC];refine wU 11 (fun Kd UW=> ?_);refine VX 17 72 hz acC (fun A3 hl3 hG3 hRS=> ?_);replace hS:Below wc.heap.size wc A3:=hS.grown hG3 hS.size (fun g e=>by cases e;omega);refine UW.out _ _ hS fun _=> ?_;refine dY 12 18 (.int .i64 0) hS ?_;refine wpAnyH_done (by kernel_rfl) ?_ _;go_wp2;go_meet;exact ⟨A1.heap.size,p,n,c,rfl,rfl,hS,af hRS,hl3,Je⟩
    ·skip
     refine VU 17 (fun A2 hz hb2=> ?_);have hle:=hS.size;replace hS:=hS.trans (hb2.mono hS.size);refine hKb.out _ _ hS fun _=> ?_;simp only [sA,sB,sC];have hzl:=hz.lt;generalize wc.drew.heap.size=bz at *;refine wU 6 (fun Kc hKc=> ?_);refine cD 71 14 #[.agg #[.slice sb.p sb.n sb.c, .slice bb.p bb.n bb.c], .slice qw xw.length kw] ?_;have hrd:=(OA.out _ hS).2.2.2.2.1;refine (hrd _ (au _ _) _ xw hwk.out (Qi.out _ hS).2).mono ?_;rintro e A1 ⟨rv,rfl,J3,Je,hBx⟩;obtain ⟨p,n,c,rfl⟩:=pU J3;have hz1:=hz.below hBx hzl;replace hS:=hS.trans (hBx.mono hS.size);refine ⟨_,rfl,hKc.out _ _ hS fun _=> ?_⟩;simp only [sA,sB,sC];refine dY 7 64 (.tuple #[.agg #[.bool (ρb xw).ok, .int .i64 (ρb xw).code, .slice p n c], .int .i64 0]) hS ?_;refine dY 8 72 (.agg #[.bool (ρb xw).ok, .int .i64 (ρb xw).code, .slice p n c]) hS ?_;refine dY 9 73 (.int .i64 0) hS ?_;refine wU 11 (fun Kd UW=> ?_);refine VX 17 72 hz1 J3 (fun A3 hl3 hG3 hRS=> ?_);replace hS:Below wc.heap.size wc A3:=hS.grown hG3 hS.size (fun g e=>by cases e;omega);refine UW.out _ _ hS fun _=> ?_;refine dY 12 18 (.int .i64 0) hS ?_;refine wpAnyH_done (by kernel_rfl) ?_ _;go_wp2;go_meet;exact ⟨bz,p,n,c,rfl,rfl,hS,af hRS,hl3,Je⟩
   obtain ⟨bb1,pb1,nb1,cb1,rfl,rfl,hb3,HR2,ahF,hl2⟩:=hcut;have hb4:=hb2.trans (hb3.mono hb2.size);obtain ⟨hra,a0,a1,a2⟩:=HR1.out _ hb3;obtain ⟨hrb,e0,e1,e2⟩:=HR2.out _ (au _ _);clear OA Qi;go_wp2_with fail;refine (CU _ _ _ (ρa xw) (ρb xw) hra hrb (by omega)).mono ?_;rintro e W8 ⟨rfl,jC⟩;clear a0 a1 a2 e0 e1 e2 hra hrb HR1 HR2;have hb5:=af (hb4.trans (jC.mono hb4.size));clear hb4 hb3 hb2 jC;cases hal:(ρa xw).alike (ρb xw) with
   | true=>
    have HA1:Hid (iI ρa ρb (ws.take (k+1))=A+1):=af (by rw [HAK.out,hal];rfl);clear hal;go_wp2
    go_roundw
    case rel=>exact ⟨k+1,by omega,by rw [HA1.out];go_num,by go_num,hb5.out⟩
    case measure=>simp [intOf];omega
   | false=>
    have HA1:Hid (iI ρa ρb (ws.take (k+1))=A):=af (by rw [HAK.out,hal];rfl);clear hal;go_wp2
    go_roundw
    case rel=>exact ⟨k+1,by omega,by rw [HA1.out],by go_num,hb5.out⟩
    case measure=>simp [intOf];omega
  ·have hq:¬(k:Int)<(ws.length:Int):=by omega
   have HAW:=af (HAE.out hlt);clear HAE HAK;go_wp2_with fail;go_cut [19,20,21] (fun s1 s2 s3 wx=>s2= .bool ((A:Int)==0)∧s3= .int .i64 0∧Below W6.heap.size W6 wx)
   ·refine wp_region_held_drew (S:=fun Z=>Below W6.heap.size W6 Z) rfl hb.drew fun hS=> ?_;refine dY 1 81 (.agg #[.slice sa.p sa.n sa.c, .slice ba.p ba.n ba.c, .slice sb.p sb.n sb.c, .slice bb.p bb.n bb.c, .slice (some ⟨qb,0,none⟩) 2 2, .int .i64 3]) hS ?_ rfl (aA (f:=oV) (l:=quL sa ba sb bb qb) Pt (.tmp 11) rfl q 0 rfl (fun Z h=>(Yv.out Z h).1.at) rfl rfl);refine wU 0 (fun Ka hKa=> ?_);refine cD 80 16 #[] ?_;refine (Vb _).mono ?_;rintro e A1 ⟨pc,pr',pe',kc,rfl,hnz,hBx⟩;replace hS:=hS.trans (hBx.mono hS.size);refine ⟨_,rfl,hKa.out _ _ hS fun _=> ?_⟩;simp only [sA,sB,sC];refine wU 2 (fun Kb hKb=> ?_);refine cD 82 10 #[.agg #[.slice pc fZ.cls.length kc, .slice pr' fZ.rows.length 1, .slice pe' fZ.ends.length 1], .agg #[.slice sa.p sa.n sa.c, .slice ba.p ba.n ba.c, .slice sb.p sb.n sb.c, .slice bb.p bb.n bb.c, .slice (some ⟨qb,0,none⟩) 2 2, .int .i64 3]] ?_;obtain ⟨_,hab,hra,hca,hrb,hcb⟩:=Yv.out _ hS;refine (SA A1 m0 ρa ρb (aL hm6 hS.size) fZ pc pr' pe' sa.p ba.p sb.p bb.p kc 1 1 sa.n sa.c ba.n ba.c sb.n sb.c bb.n bb.c qb 0 2 ab 3 hnz hra hrb hca hcb UA (fun y _ h=>by rw [Gy] at h;cases h) hab (bO aer.out (aL hm6 hS.size)) (by decide) (by omega) Wl RX z8 NW).mono ?_;rintro e A2 ⟨u,mb,rfl,hBy,hres⟩
    have hmb:mb=((A:Int)==0):=by
     have h1:=Lj (hres.imp id fun ⟨a,p,x,z1,z2,z3,_⟩=>⟨a,p,x,z1,z2,z3⟩);rw [HWN.out] at h1;rw [h1,Pq,HAW.out]
    clear hres hab hra hca hrb hcb hnz;replace hS:=hS.trans (hBy.mono hS.size);refine ⟨_,rfl,hKb.out _ _ hS fun _=> ?_⟩;simp only [sA,sB,sC];refine dY 3 79 (.tuple #[oV u, .bool mb, .int .i64 0]) hS ?_;refine dY 4 83 (oV u) hS ?_;refine dY 5 84 (.bool mb) hS ?_;refine dY 6 85 (.int .i64 0) hS ?_;refine dY 7 19 (oV u) hS ?_;refine dY 8 20 (.bool mb) hS ?_;refine dY 9 21 (.int .i64 0) hS ?_;refine wpAnyH_done (by kernel_rfl) ?_ _;go_wp2;go_meet;exact ⟨by rw [hmb],rfl,hS⟩
   obtain ⟨rfl,rfl,Ut⟩:=hcut;clear hb;have hb:=Ut;clear Ut;go_wp2_with fail;go_cut [22,23,24] (fun s1 s2 s3 wx=>s2= .bool ((A:Int)==(ws.length:Int))∧s3= .int .i64 0∧Below W6.heap.size W6 wx)
   ·refine wp_region_held_drew (S:=fun Z=>Below W6.heap.size W6 Z) rfl hb.drew fun hS=> ?_;refine dY 1 88 (.agg #[.slice sa.p sa.n sa.c, .slice ba.p ba.n ba.c, .slice sb.p sb.n sb.c, .slice bb.p bb.n bb.c, .slice (some ⟨qb,0,none⟩) 2 2, .int .i64 3]) hS ?_ rfl (aA (f:=oV) (l:=quL sa ba sb bb qb) Pt (.tmp 11) rfl q 0 rfl (fun Z h=>(Yv.out Z h).1.at) rfl rfl);refine wU 0 (fun Ka hKa=> ?_);refine cD 87 17 #[] ?_;refine (X9 _).mono ?_;rintro e A1 ⟨pc,pr',pe',kc,rfl,hnz,hBx⟩;replace hS:=hS.trans (hBx.mono hS.size);refine ⟨_,rfl,hKa.out _ _ hS fun _=> ?_⟩;simp only [sA,sB,sC];refine wU 2 (fun Kb hKb=> ?_);refine cD 89 10 #[.agg #[.slice pc fO.cls.length kc, .slice pr' fO.rows.length 1, .slice pe' fO.ends.length 1], .agg #[.slice sa.p sa.n sa.c, .slice ba.p ba.n ba.c, .slice sb.p sb.n sb.c, .slice bb.p bb.n bb.c, .slice (some ⟨qb,0,none⟩) 2 2, .int .i64 3]] ?_;obtain ⟨_,hab,hra,hca,hrb,hcb⟩:=Yv.out _ hS;refine (SA A1 m0 ρa ρb (aL hm6 hS.size) fO pc pr' pe' sa.p ba.p sb.p bb.p kc 1 1 sa.n sa.c ba.n ba.c sb.n sb.c bb.n bb.c qb 0 2 ab 3 hnz hra hrb hca hcb UA (fun y h _=>by rw [Ns];exact h) hab (bO aer.out (aL hm6 hS.size)) (by decide) (by omega) Wl Yn FY NW).mono ?_;rintro e A2 ⟨u,mb,rfl,hBy,hres⟩
    have hmb:mb=((A:Int)==(ws.length:Int)):=by
     have h1:=Lj (hres.imp id fun ⟨a,p,x,z1,z2,z3,_⟩=>⟨a,p,x,z1,z2,z3⟩);rw [HWN.out] at h1;rw [h1,Qw,HAW.out]
    clear hres hab hra hca hrb hcb hnz;replace hS:=hS.trans (hBy.mono hS.size);refine ⟨_,rfl,hKb.out _ _ hS fun _=> ?_⟩;simp only [sA,sB,sC];refine dY 3 86 (.tuple #[oV u, .bool mb, .int .i64 0]) hS ?_;refine dY 4 90 (oV u) hS ?_;refine dY 5 91 (.bool mb) hS ?_;refine dY 6 92 (.int .i64 0) hS ?_;refine dY 7 22 (oV u) hS ?_;refine dY 8 23 (.bool mb) hS ?_;refine dY 9 24 (.int .i64 0) hS ?_;refine wpAnyH_done (by kernel_rfl) ?_ _;go_wp2;go_meet;exact ⟨by rw [hmb],rfl,hS⟩
   obtain ⟨rfl,rfl,Ut⟩:=hcut;clear hb;have hb:=Ut;clear Ut;obtain ⟨rn,hnz,Y2⟩:=HNZ.out wc hb;have n0:wc.cell? ⟨n8,0,none⟩=some (.slice (some ⟨g,0,none⟩) 3 3):=by rw [rn.cell?];rfl
   have n1:wc.cell? ⟨n8,1,none⟩=some (.slice pr s kr):=by rw [rn.cell?];rfl
   have n2:wc.cell? ⟨n8,2,none⟩=some (.slice pe s ke):=by rw [rn.cell?];rfl
   have t0:wc.cell? ⟨n9,0,none⟩=some (.int .i64 0):=by unfold World.cell?;rw [Y2];rfl
   have t1:wc.cell? ⟨n9,1,none⟩=some (.bool true):=by unfold World.cell?;rw [Y2];rfl
   clear rn Y2;go_wp2_with fail;have hf:=Jh wc N (some ⟨g,0,none⟩) pr pe 3 kr ke 0 true;rw [MC.out.1,MC.out.2.1,MC.out.2.2,show N.fin 0 true=false by unfold NZ.fin;simp] at hf;refine (hf hnz).mono ?_;clear hf hnz n0 n1 n2 t0 t1;rintro e W9 ⟨rfl,G8⟩;have Ut:=af (aeb.out.trans ((hb.trans (G8.mono hb.size)).mono aeb.out.size));go_wp2;go_ret;exact ⟨by simp,Ut.out⟩
end Go.Proofs.YtncnfncglacheaaGreatDoor
