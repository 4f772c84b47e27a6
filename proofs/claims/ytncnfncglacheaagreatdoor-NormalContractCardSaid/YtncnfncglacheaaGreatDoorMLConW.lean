/- Part of a proof. -/
import Derived.Test.YtncnfncglacheaaGreatDoorMInvN
import Derived.Test.YtncnfncglacheaaGreatDoorMEvSan
import Derived.Lib.SlBytesConst
set_option linter.all false
set_option maxRecDepth 100000
set_option maxHeartbeats 64000000
namespace Go.Proofs.YtncnfncglacheaaGreatDoor
open Go Go.RowKit Mem
theorem Mem.jL {P:Program} {o:Oper} {a:Act} {w:World} {K:Act→Prop} {src dst e:TypeId} (x:Operand) (ho:o.op= .convert src dst x) (hs:P.underlying src=some (.slice e)) (he:P.underlying e=some (.int .u8)) (hd:P.underlying dst=some .string)
  {v:Value} {l:List UInt8} {d:Nat} (hdst:o.dst=some d) (hx:a.eval x=v) (hv:Rd aV w v l) (hk:K {a with tmps:=a.tmps.setIfInBounds d (.string ⟨l.toArray⟩)}):o.quiet P a (fun w'=>∃n,w'=w.drewN n) K:=by
 have he1:a.put o.dst (.string ⟨l.toArray⟩)={a with tmps:=a.tmps.setIfInBounds d (.string ⟨l.toArray⟩)}:=by rw [hdst];rfl
 refine ⟨_,?_,by rw [he1];exact hk⟩;rintro _ ⟨n,rfl⟩;have hv':Rd aV (w.drewN n) v l:=hv;have hrun:=jw (P:=P) hs he hd hv';unfold Oper.quietAt;simp [execOp,ho,hx,hrun,Result.andThen,Oper.quietUpon]
theorem Ns:bR Tryz.prog 37 3:=⟨fun _=>by kernel_rfl,fun _=>by kernel_rfl⟩
theorem UA:bR Tryz.prog 32 6:=⟨fun _=>by kernel_rfl,fun _=>by kernel_rfl⟩
theorem Ev.kZ.up {m m0:Nat} {w:World} {pv:Value} {ρ:List UInt8→iU} (h:Ev.kZ m w pv ρ) (hm:m≤m0):Ev.kZ m0 w pv ρ:=fun W hW u x hx hf=>h W hW u x hx (by
 rcases hf with hf | ⟨b,o,cap,rfl,h1,h2,h3,h4⟩
 ·exact .inl hf
 ·exact .inr ⟨b,o,cap,rfl,h1,h2,h3,aJ hm h4⟩)
theorem below_drewN (B:Nat) (w:World) (n:Nat):Below B w (w.drewN n):=⟨rfl,rfl,rfl,af _,fun _ _=>rfl⟩
theorem agj:∀r,r<8→Ef r=2→Zf r=97∨Zf r=98:=by decide
theorem abq (l:List UInt8) (k:Nat) (b:UInt8) (h:((made l).cell k b).act=2):((made l).cell k b).b=97∨((made l).cell k b).b=98:=by
 unfold NZ.cell at h ⊢
 have hr:∀r∈(made l).rows,∀c∈r,c.act=2→c.b=97∨c.b=98:=fun r hr c hc hact=>by
  obtain ⟨i,_,rfl⟩:=uW.1 (show r∈mH l (aX l) from hr);obtain ⟨j,_,rfl⟩:=uW.1 (show c∈iO l i 3 from hc);exact agj _ (Qv _ (by decide)) hact
 cases h1:(made l).rows[k]? with
 | none=>rw [h1] at h;simp at h
 | some r=>
  rw [h1] at h;simp only [rY] at h ⊢;cases h2:r[(rV (made l).cls b).toNat]? with
  | none=>rw [h2] at h;simp at h
  | some c=>
   rw [h2] at h;simp only [rY] at h ⊢;exact hr r (qcc h1) c (qcc h2) h
theorem U3 (l:List UInt8):∀(bs:List UInt8) (s:sS),(∀b∈bs,b=97∨b=98)→(∀b∈s.out,b=97∨b=98)→((made l).run s bs).out.length≤s.out.length+bs.length∧∀b∈((made l).run s bs).out,b=97∨b=98
 | [],s,_,hs=>⟨af _,hs⟩
 | b::bs,s,hb,hs=>by
  have h1:=M6 (made l) s b
  have h2:∀c∈((made l).step s b).out,c=97∨c=98:=by
   unfold NZ.step;split
   ·exact hs
   ·intro c hc;rcases pO.1 hc with h | h
    ·exact hs c h
    ·unfold Ce.out at h;split at h
     ·rw [jN] at h;subst h;exact hb c (by simp)
     ·split at h
      ·rw [jN] at h;rw [h];exact abq l _ _ (by assumption)
      ·cases h
  obtain ⟨h3,h4⟩:=U3 l bs ((made l).step s b) (fun c hc=>hb c (by simp [hc])) h2;refine ⟨?_,h4⟩;have h5:((made l).run s (b::bs)).out.length=((made l).run ((made l).step s b) bs).out.length:=rfl;rw [h5,mO];omega
theorem abb (l:List UInt8) (y:List UInt8) (h:Ev.W3 y) (_:(made l).acc y=true):Ev.W3 ((made l).sI y):=by
 obtain ⟨h1,h2⟩:=U3 l y ⟨0,false,[]⟩ h.2 (fun b hb=>by cases hb);refine ⟨?_,h2⟩;have:=h.1;simp only [Lh] at h1;unfold NZ.sI;omega
theorem Ur (hS:Pn) (w:World) (p1:Option Addr) (c1:Nat) (l:List UInt8) (x y:UInt8) (h1:Rd aV w (.slice p1 l.length c1) l) (hT:gV w) (htl:1<w.heap.size):
  Calls Tryz.prog 3 #[.slice p1 l.length c1, .int .u8 (x.toNat:Int), .int .u8 (y.toNat:Int)] w fun e w'=>e= .returned (.bool true)∧Below w.heap.size w w':=by
 obtain ⟨xv,hxv⟩:∃xv:Int,(x.toNat:Int)=xv:=⟨_,rfl⟩
 obtain ⟨yv,hyv⟩:∃yv:Int,(y.toNat:Int)=yv:=⟨_,rfl⟩
 have hx0:0≤xv∧xv<256:=by have:=x.toNat_lt;omega
 have hy0:0≤yv∧yv<256:=by have:=y.toNat_lt;omega
 rw [hxv,hyv];clear hxv hyv;have HR1:=Lib.hid h1;obtain ⟨ll,Hll⟩:∃n,Hid (l.length=n):=⟨_,Lib.hid rfl⟩
 rw [Hll.out];clear h1;go_enter Tryz.func3,Tryz.ntmps3;go_wp2_with fail;refine (Ev.ZP w htl).mono ?_;rintro e W1 ⟨rfl,hB1⟩;have hT1:=hT.below hB1 htl;have ht1:1<W1.heap.size:=bJ htl hB1.size;clear hT htl;go_wp2_with fail;refine (hS W1 xv hx0 hT1 ht1).mono ?_;rintro e WA ⟨sa,ba,ρa,rfl,hMA,hBA⟩;obtain ⟨hRA,Pk⟩:=hMA WA (Ev.Mk.refl _);have hTA:=hT1.below hBA ht1;have htA:1<WA.heap.size:=bJ ht1 hBA.size;go_wp2_with fail;refine (hS WA yv hy0 hTA htA).mono ?_;rintro e WB ⟨sb,bb,ρb,rfl,lg,Bw⟩;obtain ⟨hRB,hCB⟩:=lg WB (Ev.Mk.refl _);have HPA:=Lib.hid (And.intro ((hRA.below Bw).up Bw.size) (And.intro (Pk.below Bw) (And.intro hRB hCB)));have abp:=hB1.trans ((hBA.trans (Bw.mono hBA.size)).mono hB1.size);clear hMA lg hRA hRB Pk hCB hTA htA hT1 ht1 hBA Bw;have kcv:=fun (w:World) (C:Array Value) (n c:Nat)=>Lib.run_convert_bytes_const (P:=Tryz.prog) w 22 5 C n c Tryz.underlying22 Tryz.underlying5;go_upto_region 3 with (fail)
 obtain ⟨WQ,hWQ,V7,gq,hab⟩:∃W,((WB.alloc (.cells #[.int .u8 97, .int .u8 98] 5 (2,3))).alloc (.cells #[.slice sa.p sa.n sa.c, .slice ba.p ba.n ba.c, .slice sb.p sb.n sb.c, .slice bb.p bb.n bb.c, .slice (some ⟨WB.heap.size,0,none⟩) 2 2, .int .i64 3] 32))=W∧Below WB.heap.size WB W∧Row oV W (WB.heap.size+1) 32 [⟨.slice sa.p sa.n sa.c,rfl⟩,⟨.slice ba.p ba.n ba.c,rfl⟩,⟨.slice sb.p sb.n sb.c,rfl⟩,⟨.slice bb.p bb.n bb.c,rfl⟩,⟨.slice (some ⟨WB.heap.size,0,none⟩) 2 2,rfl⟩,oi 3]∧W.heap[WB.heap.size]?=some (.cells #[.int .u8 97, .int .u8 98] 5 (2,3)):=by
  refine ⟨_,rfl,ah (ah (ak _ _) (af _) _) (af _) _,?_,?_⟩
  all_goals repeat (first | (refine dA _ _ _ ?_;(simp;done)) | (refine (o5 _ _ _ ?_).trans ?_;·(simp<;>omega)))
 rw [hWQ];clear hWQ kcv;obtain ⟨m0,Hm0⟩:∃q,Hid (WB.heap.size=q):=⟨_,Lib.hid rfl⟩
 have aaN:Rd aV WQ (.slice (some ⟨WB.heap.size,0,none⟩) 2 2) ab:= .inr ⟨WB.heap.size,0,2,rfl,af _,fun i hi=>by
  have hi:i<2:=hi
  unfold World.cell?
  rw [hab]
  match i,hi with
  | 0,_=>rfl
  | 1,_=>rfl,(jB.1 hab).1⟩
 have U6:=abp.trans (V7.mono abp.size);have hq8:=gq.lt
 have HQ0:Hid (∀Z:World,Below WQ.heap.size WQ Z→Row oV Z (WB.heap.size+1) 32 [⟨.slice sa.p sa.n sa.c,rfl⟩,⟨.slice ba.p ba.n ba.c,rfl⟩,⟨.slice sb.p sb.n sb.c,rfl⟩,⟨.slice bb.p bb.n bb.c,rfl⟩,⟨.slice (some ⟨WB.heap.size,0,none⟩) 2 2,rfl⟩,oi 3]∧Rd aV Z (.slice (some ⟨WB.heap.size,0,none⟩) 2 2) ab∧Ev.kZ WB.heap.size Z (.agg #[sa.v,ba.v]) ρa∧Ev.xA Z (.agg #[sa.v,ba.v])∧Ev.kZ WB.heap.size Z (.agg #[sb.v,bb.v]) ρb∧Ev.xA Z (.agg #[sb.v,bb.v])):=Lib.hid fun Z hZ=>by
  obtain ⟨a1,a2,a3,a4⟩:=HPA.out;exact ⟨gq.below hZ hq8,aaN.below hZ,(a1.below V7).below hZ,(a2.below V7).below hZ,(a3.below V7).below hZ,(a4.below V7).below hZ⟩
 have hmq:WB.heap.size<WQ.heap.size:=by omega
 clear gq hab aaN HPA abp V7 Hm0;generalize WB.heap.size=qb at *;go_wp2_with fail;have hcl:=acn WQ p1 c1 l (HR1.out.below U6);rw [Hll.out] at hcl;refine hcl.mono ?_;clear hcl;rintro e W2 ⟨B,g,pr,pe,kr,ke,us,rfl,hN,rQ⟩;have K6:ng W2 (.agg #[.slice (some ⟨g,0,none⟩) 3 3, .slice pr (aX l) kr, .slice pe (aX l) ke]) (made l):=hN.nz rfl;have hB2:Below WQ.heap.size WQ W2:=hN.low;obtain ⟨s,Hs⟩:∃n,Hid (aX l=n):=⟨_,Lib.hid rfl⟩
 have Oz:Hid ((made l).cls.length=3∧(made l).rows.length=s∧(made l).ends.length=s):=Lib.hid ⟨rfl,by rw [← Hs.out];exact ja _ _,by rw [← Hs.out];exact dQ _ _⟩;rw [Hs.out] at K6 ⊢;clear hN rQ Hs;have hval:=Lib.hid (Q0 l);have gH:=Lib.hid (XC l);have hw3:=Lib.hid (abb l);generalize made l=N at *;have hz:Row oV (W2.alloc (.cells #[.slice none 0 0, .slice none 0 0, .slice none 0 0] 37)) W2.heap.size 37 [on,on,on]:=Row.new _ _ rfl;have hba:Below W2.heap.size W2 (W2.alloc (.cells #[.slice none 0 0, .slice none 0 0, .slice none 0 0] 37)):=(ak _ _).alloc (af _) _;go_upto_region 4 with ((with_reducible refine zS (l':=[⟨.slice (some ⟨g,0,none⟩) 3 3,rfl⟩,⟨.slice pr s kr,rfl⟩,⟨.slice pe s ke,rfl⟩]) hz Ns ?_);(intro W3 hs3 hG3 hz3));have hB3:Below W2.heap.size W2 W3:=hba.grown hG3 hba.size (fun k e=>by cases e;exact af _);have hN3:=K6.below hB3;have hn9:=hs3.lt;have QK:=hB2.trans (hB3.mono hB2.size);have HN:Hid (∀Z:World,Below W3.heap.size W3 Z→Row oV Z W2.heap.size 37 [⟨.slice (some ⟨g,0,none⟩) 3 3,rfl⟩,⟨.slice pr s kr,rfl⟩,⟨.slice pe s ke,rfl⟩]∧ng Z (.agg #[.slice (some ⟨g,0,none⟩) 3 3, .slice pr s kr, .slice pe s ke]) N):=Lib.hid fun Z hZ=>⟨hs3.below hZ hn9,hN3.below hZ⟩;have HQ:Hid (∀Z:World,Below W3.heap.size W3 Z→Row oV Z (qb+1) 32 [⟨.slice sa.p sa.n sa.c,rfl⟩,⟨.slice ba.p ba.n ba.c,rfl⟩,⟨.slice sb.p sb.n sb.c,rfl⟩,⟨.slice bb.p bb.n bb.c,rfl⟩,⟨.slice (some ⟨qb,0,none⟩) 2 2,rfl⟩,oi 3]∧Rd aV Z (.slice (some ⟨qb,0,none⟩) 2 2) ab∧Ev.kZ qb Z (.agg #[sa.v,ba.v]) ρa∧Ev.xA Z (.agg #[sa.v,ba.v])∧Ev.kZ qb Z (.agg #[sb.v,bb.v]) ρb∧Ev.xA Z (.agg #[sb.v,bb.v])):=Lib.hid fun Z hZ=>HQ0.out Z (QK.trans (hZ.mono QK.size));have yF:=U6.trans (QK.mono U6.size);have aak:qb<W3.heap.size:=bJ hmq QK.size;clear hz hba hG3 hz3 hs3 hN3 K6 hB3 HQ0 hB2 QK;generalize W2.heap.size=n9 at *;have Bw:Below W3.heap.size W3 W3:=ak _ _;obtain ⟨r9,hnz⟩:=HN.out _ Bw;obtain ⟨r8,hab,hra,hca,hrb,hcb⟩:=HQ.out _ Bw;rw [DN]
 go_wp2_with (first
  | ((with_reducible refine zL r9.at Ns rfl (C:=#[.slice (some ⟨g,0,none⟩) 3 3, .slice pr s kr, .slice pe s ke]) ?_))
  | ((with_reducible refine zL r8.at UA rfl (C:=#[.slice sa.p sa.n sa.c, .slice ba.p ba.n ba.c, .slice sb.p sb.n sb.c, .slice bb.p bb.n bb.c, .slice (some ⟨qb,0,none⟩) 2 2, .int .i64 3]) ?_)))
 have hc:=YV W3 qb ρa ρb (Dl aak) N (some ⟨g,0,none⟩) pr pe sa.p ba.p sb.p bb.p 3 kr ke sa.n sa.c ba.n ba.c sb.n sb.c bb.n bb.c qb 0 2 ab 3;rw [Oz.out.1,Oz.out.2.1,Oz.out.2.2] at hc;refine (hc hnz hra hrb hca hcb abu hw3.out hab aak (by decide) (by omega) acw gH.out hval.out YC).mono ?_;clear hc r9 hnz r8 hab hra hca hrb hcb;rintro e W4 ⟨u,mb,rfl,hB4,hres⟩
 have aah:Hid ((mb=true∧∀x∈Sc.upTo ab 4,N.dD ρa ρb x=true)∨(mb=false∧∃(p:Nat) (hp:p<(Sc.upTo ab 4).length),(∀y∈(Sc.upTo ab 4).take p,N.dD ρa ρb y=true)∧N.dD ρa ρb (Sc.upTo ab 4)[p]=false∧Rd aV W4 (oV u) (Sc.upTo ab 4)[p])):=Lib.hid (by
  rcases hres with h | ⟨h0,pre,xx,hp,h3,h4,h5⟩
  ·exact .inl h
  ·obtain ⟨t,ht⟩:=hp
   have hlt:pre.length<(Sc.upTo ab 4).length:=by rw [← ht];simp<;>omega
   have e1:(Sc.upTo ab 4)[pre.length]=xx:=by
    have h9:(Sc.upTo ab 4)[pre.length]?=some xx:=by rw [← ht];simp
    rw [bK hlt] at h9
    exact eG h9
   have e2:(Sc.upTo ab 4).take pre.length=pre:=by rw [← ht];simp
   exact .inr ⟨h0,pre.length,hlt,by rw [e2];exact h3,by rw [e1];exact h4,by rw [e1];exact h5⟩)
 clear hres;have Qi:=yF.trans (hB4.mono yF.size);have r8:=(HQ.out W4 hB4).1;have hab:=(HQ.out W4 hB4).2.1;have q4:W4.cell? ⟨qb+1,4,none⟩=some (.slice (some ⟨qb,0,none⟩) 2 2):=by rw [r8.cell?];rfl
 have q5:W4.cell? ⟨qb+1,5,none⟩=some (.int .i64 3):=by rw [r8.cell?];rfl
 clear r8;go_wp2_with fail;have hc:=O5 W4 (some ⟨qb,0,none⟩) 2 ab 3 hab (by decide) (by omega) (by rw [U9];omega);refine hc.mono ?_;clear hc q4 q5 hab;rintro e W5 ⟨pw,cw,rfl,hLv,vR⟩;have HW3:=Lib.hid abu;generalize hws:Sc.upTo ab (3+1)=ws at *;have hwl:ws.length≤15:=by rw [← hws];exact Iz U9
 clear hws;have HW:=Lib.hid hLv;have hm4:qb≤W4.heap.size:=aJ (Dl aak) hB4.size;have UD:=hB4.trans (vR.mono hB4.size);have F5:=yF.trans (UD.mono yF.size)
 have HRU:Hid (∀X,Below W5.heap.size W5 X→Row oV X n9 37 [⟨.slice (some ⟨g,0,none⟩) 3 3,rfl⟩,⟨.slice pr s kr,rfl⟩,⟨.slice pe s ke,rfl⟩]∧ng X (.agg #[.slice (some ⟨g,0,none⟩) 3 3, .slice pr s kr, .slice pe s ke]) N∧Row oV X (qb+1) 32 [⟨.slice sa.p sa.n sa.c,rfl⟩,⟨.slice ba.p ba.n ba.c,rfl⟩,⟨.slice sb.p sb.n sb.c,rfl⟩,⟨.slice bb.p bb.n bb.c,rfl⟩,⟨.slice (some ⟨qb,0,none⟩) 2 2,rfl⟩,oi 3]∧Ev.kZ qb X (.agg #[sa.v,ba.v]) ρa∧Ev.kZ qb X (.agg #[sb.v,bb.v]) ρb):=Lib.hid fun X hX=>by
  have h:=UD.trans (hX.mono UD.size);obtain ⟨a1,a2⟩:=HN.out X h;obtain ⟨b1,b2,b3,b4,b5,b6⟩:=HQ.out X h;exact ⟨a1,a2,b1,b3,b5⟩
 have hsz5:qb≤W5.heap.size:=aJ hm4 vR.size;have HU5:=Lib.hid vR;clear HN HQ hLv hB4 UD Qi Bw U6 vR yF;have hX0:=Lib.hid (ak W5.heap.size W5);go_wp2_with fail
 go_loopw [14] (fun TF wx=>∃k:Nat,k≤ws.length∧TF= .int .i64 k∧Hid (∀z∈ws.take k,N.dD ρa ρb z=true)∧Below W5.heap.size W5 wx) (fun i _=>ws.length - (intOf i).toNat)
 case atStart=>exact ⟨0,by omega,rfl,Lib.hid (fun z hz=>by simp at hz),hX0.out⟩
 case round=>
  clear hX0;obtain ⟨k,hk,rfl,HK,hb⟩:=hrel;by_cases hlt:k<ws.length
  ·have hq:(k:Int)<(ws.length:Int):=by omega
   obtain ⟨bw,qw,mw,kw,rfl,hcc,hmw,BG⟩:=HW.out.elem k hlt;subst hmw;have hbw:=(HW.out.row bw rfl).2;have hfr:=BG.fresh (m0:=qb) hm4;have HCE:Hid (∀Y,Below W5.heap.size W5 Y→Y.cell? ⟨bw,k,none⟩=some (.slice qw (ws[k]'hlt).length kw)∧mZ qb Y (.slice qw (ws[k]'hlt).length kw) ws[k]):=Lib.hid fun Y hY=>⟨(hY.cell (p:=⟨bw,k,none⟩) hbw).trans hcc,hfr.below hY⟩;have hwk:=Lib.hid (HW3.out (ws[k]'hlt) (oO hlt))
   have Yi:Hid (N.dD ρa ρb (ws[k]'hlt)=true→∀z∈ws.take (k+1),N.dD ρa ρb z=true):=Lib.hid fun h z hz=>by
    rw [Av hlt] at hz;rcases pO.1 hz with h2 | h2
    ·exact HK.out z h2
    ·rw [jN] at h2;subst h2;exact h
   have afU:Hid (mb=true→N.dD ρa ρb (ws[k]'hlt)=true):=Lib.hid fun h0=>by
    rcases aah.out with ⟨_,h1⟩ | ⟨h1,_⟩
    ·exact h1 _ (oO hlt)
    ·rw [h0] at h1;cases h1
   have HB2:Hid (mb=false→∃bd,Rd aV W5 (oV u) bd∧((ws[k]'hlt)==bd)= !N.dD ρa ρb (ws[k]'hlt)):=Lib.hid fun h0=>by
    rcases aah.out with ⟨h1,_⟩ | ⟨_,p,hp,h3,h4,h5⟩
    ·rw [h0] at h1;cases h1
    ·refine ⟨ws[p],h5.below HU5.out,?_⟩;cases hkk:N.dD ρa ρb (ws[k]'hlt) with
     | true=>
      have:(ws[k]'hlt)≠ws[p]:=fun e=>by rw [e,h4] at hkk;cases hkk
      simpa using this
     | false=>
      have hpk:p=k:=by
       rcases Nat.lt_trichotomy p k with h | h | h
       ·have:=HK.out ws[p] (X0.2 ⟨p,by omega,rfl⟩);rw [h4] at this;cases this
       ·exact h
       ·have:=h3 (ws[k]'hlt) (X0.2 ⟨k,by omega,rfl⟩);rw [hkk] at this;cases this
      subst hpk;simp
   clear hcc BG hbw hfr;generalize hxw:ws[k]'hlt=xw at *;clear hxw;go_wp2_with fail;go_cut [15] (fun s15 wx=>s15= .bool (N.dD ρa ρb xw)∧Below W5.heap.size W5 wx)
   ·refine wp_region_held_drew (S:=fun XX=>Below W5.heap.size W5 XX) rfl hb.drew fun hS=> ?_;refine nD 0 45 (.agg #[.slice (some ⟨g,0,none⟩) 3 3, .slice pr s kr, .slice pe s ke]) hS ?_ rfl (aA (f:=oV) (l:=[⟨.slice (some ⟨g,0,none⟩) 3 3,rfl⟩,⟨.slice pr s kr,rfl⟩,⟨.slice pe s ke,rfl⟩]) Ns (.tmp 9) rfl n9 0 rfl (fun W' h=>(HRU.out W' h).1.at) rfl rfl);refine nD 1 46 (.agg #[.slice sa.p sa.n sa.c, .slice ba.p ba.n ba.c, .slice sb.p sb.n sb.c, .slice bb.p bb.n bb.c, .slice (some ⟨qb,0,none⟩) 2 2, .int .i64 3]) hS ?_ rfl (aA (f:=oV) (l:=[⟨.slice sa.p sa.n sa.c,rfl⟩,⟨.slice ba.p ba.n ba.c,rfl⟩,⟨.slice sb.p sb.n sb.c,rfl⟩,⟨.slice bb.p bb.n bb.c,rfl⟩,⟨.slice (some ⟨qb,0,none⟩) 2 2,rfl⟩,oi 3]) UA (.tmp 8) rfl (qb+1) 0 rfl (fun W' h=>(HRU.out W' h).2.2.1.at) rfl rfl);refine nD 2 47 (.slice (some ⟨bw,0,none⟩) ws.length cw) hS ?_;refine nD 3 48 (.int .i64 k) hS ?_;refine nD 4 49 (.pointer (some ⟨bw,0+k,none⟩)) hS ?_ rfl yg;refine nD 5 50 (.slice qw xw.length kw) hS ?_ rfl (qi fun W' h=>by have q0:=(HCE.out W' h).1;go_simp);refine Ry 6 (fun K' hK=> ?_);refine cD 51 12 #[.agg #[.slice (some ⟨g,0,none⟩) 3 3, .slice pr s kr, .slice pe s ke], .agg #[.slice sa.p sa.n sa.c, .slice ba.p ba.n ba.c, .slice sb.p sb.n sb.c, .slice bb.p bb.n bb.c, .slice (some ⟨qb,0,none⟩) 2 2, .int .i64 3], .slice qw xw.length kw] ?_;obtain ⟨_,hnz,_,hra,hrb⟩:=HRU.out _ hS;have hc:=aaZ wr.drew N (some ⟨g,0,none⟩) pr pe qw sa.p ba.p sb.p bb.p (some ⟨qb,0,none⟩) 3 kr ke kw sa.n sa.c ba.n ba.c sb.n sb.c bb.n bb.c 2 2 3 qb ρa ρb xw (aJ hsz5 hS.size) hwk.out;rw [Oz.out.1,Oz.out.2.1,Oz.out.2.2] at hc;refine (hc hnz hra hrb (HCE.out _ hS).2 gH.out (fun h=>hw3.out xw hwk.out h)).mono ?_;clear hc hnz hra hrb;rintro e A1 ⟨rfl,hBx⟩;rw [Xn];replace hS:=hS.trans (hBx.mono hS.size);refine ⟨_,rfl,hK.out _ _ hS fun _=> ?_⟩;clear hK;simp only [sA,sB,sC];refine nD 7 15 (.bool (N.dD ρa ρb xw)) hS ?_;refine wpAnyH_done (by kernel_rfl) ?_ _;go_wp2;go_meet;exact ⟨rfl,hS⟩
   obtain ⟨rfl,hb2⟩:=hcut;obtain ⟨hcc,hfr⟩:=HCE.out wc hb2;cases hkk:N.dD ρa ρb xw with
   | true=>
    have HT2:=Lib.hid (Yi.out hkk);rcases Bool.eq_false_or_eq_true mb with hmb | hmb
    ·have hm:(!mb)=false:=by rw [hmb];rfl
     clear hmb;go_wp2_with fail;refine wp_region_quiet_lit (by kernel_rfl) (by kernel_rfl) ?_
     repeat (first
      | go_big_quiet_skip
      | (go_big_quiet_want;first
        | (go_big_quiet_op;go_big_quiet_on)))
     refine wpQuiet_nil ?_;intro _ hw';obtain ⟨nq,rfl⟩:=hw';go_wp2
     go_roundw
     case rel=>exact ⟨k+1,by omega,by go_num,HT2,hb2.trans (below_drewN _ _ _)⟩
     case measure=>simp [intOf];omega
    ·obtain ⟨bd,hbd,heq⟩:=HB2.out hmb;have hm:(!mb)=true:=by rw [hmb];rfl
     have hrx:=hfr.rd;have hrb:=hbd.below hb2;have hq0:((⟨xw.toArray⟩:ByteArray).toList==(⟨bd.toArray⟩:ByteArray).toList)=false:=by rw [O3,heq,hkk];rfl
     have hq1:(xw==bd)=false:=by rw [heq,hkk];rfl
     clear hbd heq hfr hmb;go_wp2_with fail;refine wp_region_quiet_lit (by kernel_rfl) (by kernel_rfl) ?_
     repeat (first
      | go_big_quiet_skip
      | (go_big_quiet_want;first
        | (go_big_quiet_op;go_big_quiet_on)
        | ((with_reducible refine jL (.tmp 58) ?_ Tryz.underlying22 Tryz.underlying5 Tryz.underlying9 (d:=59) ?_ ?_ hrx ?_);rfl;rfl;rfl;go_big_quiet_on;simp only [sA,sB,sC])
        | ((with_reducible refine jL (.tmp 60) ?_ Tryz.underlying22 Tryz.underlying5 Tryz.underlying9 (d:=61) ?_ ?_ hrb ?_);rfl;rfl;rfl;go_big_quiet_on;simp only [sA,sB,sC])))
     refine wpQuiet_nil ?_;intro _ hw';obtain ⟨nq,rfl⟩:=hw';go_wp2
     go_roundw
     case rel=>exact ⟨k+1,by omega,by go_num,HT2,hb2.trans (below_drewN _ _ _)⟩
     case measure=>simp [intOf];omega
   | false=>
    have hmb:mb=false:=by
     cases h:mb with
     | false=>rfl
     | true=>have:=afU.out h;rw [hkk] at this;cases this
    obtain ⟨bd,hbd,heq⟩:=HB2.out hmb;rw [hmb];have hrx:=hfr.rd;have hrb:=hbd.below hb2;have hq0:((⟨xw.toArray⟩:ByteArray).toList==(⟨bd.toArray⟩:ByteArray).toList)=true:=by rw [O3,heq,hkk];rfl
    have hq1:(xw==bd)=true:=by rw [heq,hkk];rfl
    clear hbd heq hfr;go_wp2_with fail;refine wp_region_quiet_lit (by kernel_rfl) (by kernel_rfl) ?_
    repeat (first
     | go_big_quiet_skip
     | (go_big_quiet_want;first
       | (go_big_quiet_op;go_big_quiet_on)
       | ((with_reducible refine jL (.tmp 58) ?_ Tryz.underlying22 Tryz.underlying5 Tryz.underlying9 (d:=59) ?_ ?_ hrx ?_);rfl;rfl;rfl;go_big_quiet_on;simp only [sA,sB,sC])
       | ((with_reducible refine jL (.tmp 60) ?_ Tryz.underlying22 Tryz.underlying5 Tryz.underlying9 (d:=61) ?_ ?_ hrb ?_);rfl;rfl;rfl;go_big_quiet_on;simp only [sA,sB,sC])))
    refine wpQuiet_nil ?_;intro _ hw';obtain ⟨nq,rfl⟩:=hw';go_wp2;go_ret;exact ⟨rfl,F5.trans ((hb2.trans (below_drewN _ _ _)).mono F5.size)⟩
  ·have hq:¬(k:Int)<(ws.length:Int):=by omega
   have hmb:mb=true:=by
    rcases aah.out with ⟨h1,_⟩ | ⟨_,p,hp,h3,h4,h5⟩
    ·exact h1
    ·have:=HK.out ws[p] (X0.2 ⟨p,by omega,rfl⟩);rw [h4] at this;cases this
   rw [hmb];go_wp2;go_ret;exact ⟨rfl,F5.trans (hb.mono F5.size)⟩
end Go.Proofs.YtncnfncglacheaaGreatDoor
