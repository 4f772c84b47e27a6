/- Part of a proof. -/
import Derived.Test.YtncnfncglacheaaGreatDoorFCanP
set_option linter.all false
set_option maxRecDepth 100000
set_option maxHeartbeats 64000000
namespace Go.Proofs.YtncnfncglacheaaGreatDoor
section
open Go Go.RowKit Mem
def xE (l:List Nat):Array Value:=(l.map nV).toArray
theorem PI:bU Tryz.prog 152 256:=⟨fun _=>by kernel_rfl,fun _=>by kernel_rfl⟩
def nP:Array Value:=xE (List.replicate 256 0)
theorem Ct (w:World):(zeroValue 152).run Tryz.prog w= .ok (.agg nP) w:=by kernel_rfl
theorem IK {w:World} {N:Nat} (h:w.heap.size=N):Row nV (w.alloc (.cells nP 152)) N 152 (List.replicate 256 0):=by
 subst h;exact Row.new _ _ rfl
structure CP (w wr:World) (tb:Nat) (Ta Tb:TB) (yS yG vb1 zP:OC) (p:Option Addr) (c:Nat) (st:JS):Prop where
 ta:qP wr tb Ta yS yG
 tc:qP wr (tb+1) Tb vb1 zP
 out:Row nV wr (tb+2) 152 (List.replicate 256 0)
 cell:Row nV wr (tb+3) 152 st.cell
 map:fF TY FW Tryz.prog 206 3 wr (tb+4) st.ks
 bs:Mem.Own nV wr (tb+5) 3 (.slice p st.bs.length c) st.bs
 fH:Below tb w wr
 sz:tb+5≤wr.heap.size
section
variable {w wr w':World} {tb:Nat} {Ta Tb:TB} {yS yG vb1 zP:OC} {p:Option Addr} {c:Nat} {st:JS}
theorem CP.grown (h:CP w wr tb Ta Tb yS yG vb1 zP p c st) {row:Option Nat} (hg:wr.grownBy w' row) (hr:∀g,row=some g→tb+5≤g∧(Value.slice p st.bs.length c).ownBlock≠some g):CP w w' tb Ta Tb yS yG vb1 zP p c st:=by
 have hz:=h.sz;exact ⟨⟨h.ta.row.grown hg (fun e=>by have:=(hr _ e.symm).1;omega),h.ta.cl⟩,⟨h.tc.row.grown hg (fun e=>by have:=(hr _ e.symm).1;omega),h.tc.cl⟩,h.out.grown hg (fun e=>by have:=(hr _ e.symm).1;omega),h.cell.grown hg (fun e=>by have:=(hr _ e.symm).1;omega),h.map.kept hg (fun e=>by have:=(hr _ e.symm).1;omega),h.bs.kept hg (fun g hg' e=>(hr g e).2 hg'),h.fH.grown hg (by omega) (fun k e=>by have:=(hr k e).1;omega),aL h.sz hg.size⟩
theorem CP.under (h:CP w wr tb Ta Tb yS yG vb1 zP p c st) (hb:Below wr.heap.size wr w'):CP w w' tb Ta Tb yS yG vb1 zP p c st:=h.grown (Mem.bf hb none) (fun _ e=>by cases e)
theorem CP.setCell (h:CP w wr tb Ta Tb yS yG vb1 zP p c st) (x q:Nat):CP w (wr.setCell ⟨tb+3,x,none⟩ (nV q)) tb Ta Tb yS yG vb1 zP p c {st with cell:=st.cell.set x q}:=by
 have hg:=aI wr (tb+3) x (nV q);have hz:=h.sz;exact ⟨⟨h.ta.row.grown hg (fun e=>by injection e with e;omega),h.ta.cl⟩,⟨h.tc.row.grown hg (fun e=>by injection e with e;omega),h.tc.cl⟩,h.out.grown hg (fun e=>by injection e with e;omega),h.cell.set x q,h.map.kept hg (fun e=>by injection e with e;omega),h.bs.kept hg (fun g hg' e=>by have:=(h.bs.lt g hg').1;injection e with e;omega),h.fH.grown hg (by omega) (fun k e=>by injection e with e;omega),aL h.sz hg.size⟩
end
theorem Vz (w:World) (Ca Cb:Array Value) (Ta Tb:TB) (hA:kL w Ca Ta) (hB:kL w Cb Tb) (ha:∀x∈Ta.cell,x<65536) (hb:∀x∈Tb.cell,x<65536):
  Calls Tryz.prog 180 #[.agg Ca, .agg Cb] w fun e w'=>∃p c,e= .returned (.tuple #[.agg (xE (BK Ta Tb).cell), .slice p (BK Ta Tb).bs.length c])∧Mem.Own nV w' w.heap.size 3 (.slice p (BK Ta Tb).bs.length c) (BK Ta Tb).bs∧Below w.heap.size w w':=by
 obtain ⟨yS,yG,hCa,_,_,h3a⟩:=hA;obtain ⟨vb1,zP,hCb,_,_,h3b⟩:=hB;have HA:=af ha;have HB:=af hb;clear ha hb;have r0:qP (w.alloc (.cells Ca 166)) w.heap.size Ta yS yG:=⟨Row.new _ _ (by rw [hCa]),h3a⟩
 have r1:Row oV ((w.alloc (.cells Ca 166)).alloc (.cells Cb 166)) (w.heap.size+1) 166 (bC Tb vb1 zP):=by
  have h:=Row.new (f:=oV) (w.alloc (.cells Ca 166)) (t:=166) (l:=bC Tb vb1 zP) (.cells Cb 166) (by rw [hCb]);rw [bR] at h;exact h
 have s1:((w.alloc (.cells Ca 166)).alloc (.cells Cb 166)).heap.size=w.heap.size+2:=by simp
 have b1:Below w.heap.size w ((w.alloc (.cells Ca 166)).alloc (.cells Cb 166)):=((au _ _).alloc (ah _) _).alloc (by simp) _;have r0':=r0.row.alloc (.cells Cb 166);clear hCa hCb r0;have H1:=af s1;clear s1;go_enter Tryz.func180,Tryz.ntmps180;go_upto_region 1 with ((with_reducible refine gI (t:=152) nP Ct ?_ ?_ (w.heap.size+2) ?_ ?_);rfl;rfl;exact H1.out);generalize ((w.alloc (.cells Ca 166)).alloc (.cells Cb 166))=W at r0' r1 b1 H1 ⊢;have ro:=IK H1.out;have ra:=r0'.alloc (.cells nP 152);have rb:=r1.alloc (.cells nP 152);have bb:=b1.alloc (by have:=H1.out;omega) (.cells nP 152);have H2:Hid ((W.alloc (.cells nP 152)).heap.size=w.heap.size+3):=af (by rw [bR,H1.out]);generalize (W.alloc (.cells nP 152))=W2 at ro ra rb bb H2 ⊢;clear r0' r1 b1 H1;clear W;have hmm:= @run_makeMap Tryz.prog;go_upto_region 4 with ((with_reducible refine gI (t:=152) nP Ct ?_ ?_ (w.heap.size+3) ?_ ?_);rfl;rfl;exact H2.out);have rc:=IK H2.out;have ro':=ro.alloc (.cells nP 152);have ra':=ra.alloc (.cells nP 152);have rb':=rb.alloc (.cells nP 152);have bb':=bb.alloc (by have:=H2.out;omega) (.cells nP 152);have H3:Hid ((W2.alloc (.cells nP 152)).heap.size=w.heap.size+4):=af (by rw [bR,H2.out]);generalize (W2.alloc (.cells nP 152))=W3 at rc ro' ra' rb' bb' H3 ⊢;rw [show W2.heap.size+1=w.heap.size+4 by rw [H2.out]];clear ro ra rb bb H2;clear W2
 have rm:fF TY FW Tryz.prog 206 3 (W3.alloc (.map #[] 0)) (w.heap.size+4) []:=by
  have h:fF TY FW Tryz.prog 206 3 (W3.alloc (.map #[] 0)) W3.heap.size []:=fF.made W3
  rwa [H3.out] at h
 obtain ⟨tb,dF⟩:∃tb,Hid (w.heap.size=tb):=⟨_,af rfl⟩
 have hJ:CP w (W3.alloc (.map #[] 0)) w.heap.size Ta Tb yS yG vb1 zP none 0 (iN Ta.cell Tb.cell 0):=
  ⟨⟨ra'.alloc _,h3a⟩,⟨rb'.alloc _,h3b⟩,ro'.alloc _,rc.alloc _,rm,Own.nil _ _ _,bb'.alloc (by have:=H3.out;omega) _,by rw [bR,H3.out];omega⟩
 generalize (W3.alloc (.map #[] 0))=W4 at hJ ⊢;rw [dF.out] at hJ ⊢;clear rc ro' ra' rb' bb' rm hmm H3;clear W3;go_wp2_with fail
 go_loopw [7,14] (fun s7 Ua wr=>∃(k:Nat) (st:JS) (p:Option Addr) (c:Nat),k≤256∧Ua= .int .i64 k∧Hid (iN Ta.cell Tb.cell k=st)∧s7= .slice p st.bs.length c∧CP w wr tb Ta Tb yS yG vb1 zP p c st) (fun _ Ua _=>256 - (intOf Ua).toNat)
 case atStart=>exact ⟨0,_,none,0,by omega,rfl,af rfl,rfl,hJ⟩
 case round=>
  clear hJ;obtain ⟨k,st,p,c,hk,rfl,HS,rfl,hJ⟩:=hrel;have hok:=j5 Ta.cell Tb.cell k hk;rw [HS.out] at hok;have jQ:=af hok;clear hok;by_cases hlt:k<256
  ·have hq:(k:Int)<256:=by omega
   have c1:=hJ.ta.c k hlt;have c2:=hJ.tc.c k hlt;have ha:Ta.cell.getD k 0<65536:=HA.out _ (aO _ _ _ (by rw [hJ.ta.cl];exact hlt));have hb:Tb.cell.getD k 0<65536:=HB.out _ (aO _ _ _ (by rw [hJ.tc.cl];exact hlt));have HS1:Hid (iN Ta.cell Tb.cell (k+1)=qG Ta.cell Tb.cell st k):=af (by rw [iN,HS.out]);have HST:Hid (qG Ta.cell Tb.cell st k=if (Ta.cell.getD k 0,Tb.cell.getD k 0)∈st.ks then {st with cell:=st.cell.set k (st.ks.idxOf (Ta.cell.getD k 0,Tb.cell.getD k 0))} else ⟨st.ks++[(Ta.cell.getD k 0,Tb.cell.getD k 0)],st.bs++[k],st.cell.set k st.ks.length⟩):=af rfl;obtain ⟨x,Hx⟩:∃x,Hid (Ta.cell.getD k 0=x):=⟨_,af rfl⟩
   obtain ⟨y,Hy⟩:∃x,Hid (Tb.cell.getD k 0=x):=⟨_,af rfl⟩
   have hJa:=hJ.under ((au _ _).alloc (ah _) (.cells #[.int .i64 0, .int .i64 0] 206));have d1:=hJa.ta.c k hlt;have d2:=hJa.tc.c k hlt;rw [Hx.out] at c1 d1 ha HST;rw [Hy.out] at c2 d2 hb HST;have HJ:=af hJ;have hrs:=hJ.sz;obtain ⟨kb,wN⟩:∃n,Hid (wr.heap.size=n):=⟨_,af rfl⟩
   go_upto_region 7 with (fail);go_wp2_with fail;go_region;have wG:Below wr.heap.size wr (wr.alloc (.cells #[.int .i64 (x:Int), .int .i64 (y:Int)] 206)).drew:=((au _ _).alloc (ah _) _).drew;have hRk:Row oV (wr.alloc (.cells #[.int .i64 (x:Int), .int .i64 (y:Int)] 206)).drew wr.heap.size 206 [oi (x:Int),oi (y:Int)]:=(Row.new wr (.cells #[.int .i64 (x:Int), .int .i64 (y:Int)] 206) rfl).drew;have tK:=HJ.out.under wG;generalize (wr.alloc (.cells #[.int .i64 (x:Int), .int .i64 (y:Int)] 206)).drew=W1 at wG hRk tK ⊢;rw [wN.out] at wG hRk hrs ⊢;clear hJa d1 d2 c1 c2 hJ;have e0:W1.cell? ⟨kb,0,none⟩=some (.int .i64 (x:Int)):=by rw [hRk.cell?];rfl
   have e1:W1.cell? ⟨kb,1,none⟩=some (.int .i64 (y:Int)):=by rw [hRk.cell?];rfl
   have P8:Hid (TY (x,y)):=af ⟨ha,hb⟩;have qK:Hid (Go.keyOf Tryz.prog 206 (.agg #[.int .i64 (x:Int), .int .i64 (y:Int)])=some (FW (x,y))):=af (acX (x,y) ⟨ha,hb⟩);have hz:∀w:World,(zeroValue 3).run Tryz.prog w= .ok (.int .i64 0) w:=fun w=>by kernel_rfl
   have GU:=af jQ.out.bl;have hle:=jQ.out.le;have hcl:k<st.cell.length:=by rw [jQ.out.cl];exact hlt
   clear HS ha hb;have hmp:=tK.map;by_cases hm:(x,y)∈st.ks
   ·rw [aC hm] at HST;obtain ⟨q,Hq⟩:∃q,Hid (@List.idxOf _ instBEqOfDecidableEq (x,y) st.ks=q):=⟨_,af rfl⟩
    rw [← Kt,Hq.out] at HST;have HM:=af hm;clear hm;have c3:=fu tK.cell k hcl;have f3:=tK.cell.frozen k;have hJ2:=tK.setCell k q;have HJ2:Hid (CP w (W1.setCell ⟨tb+3,k,none⟩ (.int .i64 (q:Int))) tb Ta Tb yS yG vb1 zP p c (qG Ta.cell Tb.cell st k)∧(qG Ta.cell Tb.cell st k).bs.length=st.bs.length):=af (by rw [HST.out];exact ⟨hJ2,rfl⟩);clear tK hJ2 wG hRk;go_wp2_with (at_lookup;(with_reducible refine oW hmp ?_ (.tmp 27) (.tmp 28) ?_ kP Tryz.underlying207 Tryz.underlying3 (hz _) ?_ (x,y) P8.out HM.out q Hq.out _ ?_ qK.out ?_);rfl;rfl;rfl;rfl)
    go_roundw
    case rel=>exact ⟨k+1,_,p,c,by omega,by go_num,HS1,by rw [HJ2.out.2],HJ2.out.1⟩
    case measure=>simp [intOf];omega
   ·rw [aF hm] at HST;have HM:=af hm;clear hm;have hkl:st.ks.length<1000000000:=by rw [← GU.out];omega
    have hlen:(st.bs.length+1) * 8≤140737488355328:=by omega
    have yw:st.bs.length+1≤140737488355328:=by omega
    have Hlen:=af hlen;have ae9:=af yw;have ahv:kb≤W1.heap.size:=by rw [← wN.out];exact wG.size
    clear wG hle hlen yw
    go_wp2_with (first
     | (at_lookup;(with_reducible refine nL hmp ?_ (.tmp 27) (.tmp 28) ?_ kP Tryz.underlying207 Tryz.underlying3 (hz _) ?_ (x,y) P8.out HM.out _ ?_ qK.out ?_);rfl;rfl;rfl;rfl)
     | (at_mapUpdate;(with_reducible refine DK hmp ?_ (.tmp 36) (.tmp 37) (.tmp 38) ?_ kP Tryz.underlying207 Tryz.underlying3 YO Y3 ?_ (x,y) P8.out HM.out hkl _ ?_ qK.out ?_ ?_);rfl;rfl;rfl;rfl;(exact congrArg (fun n:Nat=>Value.int .i64 (n:Int)) GU.out);(intro W7 uD gL);(have xQ:=tK.bs.kept gL (fun g hg e=>by have:=(tK.bs.lt g hg).1;injection e with e;omega));(have hs7:tb+5≤W7.heap.size:=aL tK.sz gL.size);(have WS:=tK.cell.grown gL (fun e=>by injection e with e;omega)))
     | (at_builtin;(with_reducible refine eG Fy (.tmp 39) (.tmp 41) ?_ ?_ uQ ?_ xQ k _ ?_ _ ?_ Hlen.out ae9.out hs7 (st.bs++[k]) ?_ ?_);rfl;rfl;rfl;rfl;rfl;rfl;(intro p8 c8 W8 mQ jC iC);(have IE:=(WS.alloc (.cells #[.int .i64 (k:Int)] 3)).grown iC (fun e=>by have:=(xQ.lt _ e.symm).1;omega));(have c3:=fu IE k hcl);(have f3:=IE.frozen k)))
    have hne:∀b,b<tb+5→some b≠(Value.slice p st.bs.length c).ownBlock:=fun b hb e=>by have:=(xQ.lt b e.symm).1;omega
    have vZ:=tK.sz
    have HJ2:Hid (CP w (W8.setCell ⟨tb+3,k,none⟩ (.int .i64 (st.bs.length:Int))) tb Ta Tb yS yG vb1 zP p8 c8 (qG Ta.cell Tb.cell st k)∧(qG Ta.cell Tb.cell st k).bs.length=st.bs.length+1):=af (by
     rw [HST.out]
     refine ⟨?_,by simp⟩
     have g1:W7.grownBy W8 (Value.slice p st.bs.length c).ownBlock:=⟨iC.os,iC.tape,iC.output,aL (by rw [bR];omega) iC.size,fun b hb hn=>(iC.block b (by rw [bR];omega) hn).trans (pM _ _ _ hb)⟩
     have h8:CP w W8 tb Ta Tb yS yG vb1 zP p8 c8 ⟨st.ks++[(x,y)],st.bs++[k],st.cell⟩:=by
      refine ⟨⟨(tK.ta.row.grown gL (fun e=>by injection e with e;omega)).grown g1 (hne _ (by omega)),tK.ta.cl⟩,⟨(tK.tc.row.grown gL (fun e=>by injection e with e;omega)).grown g1 (hne _ (by omega)),tK.tc.cl⟩,(tK.out.grown gL (fun e=>by injection e with e;omega)).grown g1 (hne _ (by omega)),IE,uD.kept g1 (hne _ (by omega)),mQ,(tK.fH.grown gL (by omega) (fun b e=>by injection e with e;omega)).grown g1 (by omega) (fun b e=>by have:=(xQ.lt b e).1;omega),aL hs7 g1.size⟩
     have h9:=h8.setCell k st.ks.length
     rw [GU.out]
     exact h9)
    clear tK xQ mQ jC iC uD gL WS IE hs7 hne
    go_roundw
    case rel=>exact ⟨k+1,_,p8,c8,by omega,by go_num,HS1,by rw [HJ2.out.2],HJ2.out.1⟩
    case measure=>simp [intOf];omega
  ·obtain rfl:k=256:=by omega
   have HE:Hid (BK Ta Tb=st):=af HS.out;have hout:=hJ.out;have hcell:=hJ.cell;have HJ:=af hJ;obtain ⟨cl,qW⟩:∃l,Hid (st.cell=l):=⟨_,af rfl⟩
   have hcl:cl.length=256:=by rw [← qW.out];exact jQ.out.cl
   have hA2:bU Tryz.prog 152 cl.length:=by rw [hcl];exact PI
   obtain ⟨CA,EC⟩:∃C,Hid (C=(cl.map nV).toArray):=⟨_,af rfl⟩
   obtain ⟨zl,Hzl⟩:∃l,Hid (List.replicate 256 0=l):=⟨_,af rfl⟩
   have hzl:cl.length=zl.length:=by rw [hcl,← Hzl.out];simp
   rw [qW.out] at hcell;rw [Hzl.out] at hout;have ahE:=af hcl;clear hJ hcl
   go_wp2_with (first
    | ((with_reducible refine zL hcell.at hA2 EC.out ?_))
    | ((with_reducible refine aK (f:=nV) (l:=zl) (l':=cl) (t:=152) (C:=CA) hA2 (.tmp 4) (.tmp 47) ?_ ?_ (tb+2) ?_ EC.out ?_ hout hzl uQ ?_);rfl;rfl;rfl;rfl;(intro W9 iO dB tY)))
   have dV:Below tb w W9:=HJ.out.fH.grown dB (by have:=HJ.out.sz;omega) (fun k e=>by injection e with e;omega);refine fJ (v:= .tuple #[.agg (cl.map nV).toArray, .slice p st.bs.length c]) (bG (f:=nV) (l:=cl) (t:=5) rfl _ hA2 (tb+2) 0 rfl iO.at) rfl ?_;refine ⟨p,c,by rw [HE.out,qW.out];rfl,?_,by rw [dF.out];exact dV⟩;rw [HE.out,dF.out];exact (HJ.out.bs.kept dB (fun g hg e=>by have:=(HJ.out.bs.lt g hg).1;injection e with e;omega)).mono (by omega)
end
section
open Go Go.RowKit Mem
theorem afa:yM Tryz.prog 341 286 3 24:=yM.mk' (z:= .agg #[.int .i64 0, .int .i64 0, .int .u64 0]) Tryz.underlying341 (by kernel_rfl) rfl
theorem lQ:bU Tryz.prog 286 3:=⟨fun _=>by kernel_rfl,fun _=>by kernel_rfl⟩
section
variable {α:Type} [DecidableEq α] {ok:α→Prop} {enc:α→Lit} {P:Program} {K E T:TypeId} {w:World} {b:Nat} {ks:List α}
variable {ops:Array Oper} {rest:List Oper} {o:Oper} {a:Act} {Q:Exit→Act→World→Prop}
theorem aai (h:fF ok enc P K E w b ks) (hg:o.guard=none) (m x v:Operand) (hop:o.op=Op.insert T m x v) (KK:Maps.Keyed P K) (ht:P.underlying T=some (.map K E)) (he:P.underlying E=some (.int .i64))
  (hinj:∀a b,ok a→ok b→enc a=enc b→a=b) (hkl:∀a,WideAt.IsKeyLit (enc a)) (hm:a.eval m= .map (some b)) (y:α) (hy:ok y) (hn:y∉ks) (hl:ks.length<1000000000) (key:Value) (hx:a.eval x=key) (hkey:keyOf P K key=some (enc y)) (hv:a.eval v= .int .i64 (ks.length:Nat))
  (hk:∀w',fF ok enc P K E w' b (ks++[y])→w.grownBy w' (some b)→wpList P ops Q rest (a.put o.dst undef) w'):wpList P ops Q (o::rest) a w:=by
 obtain ⟨D,h1,h2⟩:=h;refine RQ hg fun K' hK'=> ?_;obtain ⟨w',hrun,r1,r2⟩:=h1.update KK ht (by unfold maxLen;omega) hkey (plainElem_int he (WalkArith.wf_i64 (n:=(ks.length:Nat)) (by omega)));unfold Oper.wp;simp [execOp,hop,hm,hx,hv,hrun,Result.andThen];exact hK' _ _ (hk w' ⟨_,by rw [fq];exact r1,h2.put hinj hkl hy hn⟩ r2)
end
theorem YW {α:Type} {K:Nat} {enc:α→List OC} (w:World) {N base:Nat} {e:TypeId} (hN:w.heap.size=N) (hb:base≤N) (hk:∀x,(enc x).length=K) (x:α) {C:Array Value} (hC:C=((enc x).map oV).toArray):aT K enc (w.alloc (.cells C e)) base e (.slice (some ⟨N,0,none⟩) 1 1) [x]:=by
 subst hN hC;exact ⟨by simp [hk], .inr ⟨w.heap.size,1,_,rfl,hb,heap_alloc_new w _,ah _,by unfold maxLen;show 1≤_;omega,by simp [hk],by simp only [Md,List.flatMap_nil,Cm,TQ,BH];rw [qj (by rw [fD,hk];exact ah _)]⟩⟩
def aei (X:World) (B N:Nat) (u:OC) (r:List Nat):Prop:=∃g,u.1= .slice (some ⟨g,0,none⟩) r.length r.length∧Row nV X g 3 r∧B≤g∧g<N∧r.length≤256
structure lZ (w X:World) (tb N:Nat) (cell:List Nat) (nb:Nat) (ks:List Sx) (nx:List (List Nat)) (ac:List Bool) (po:Option Addr) (co:Nat) (pn:Option Addr) (cn:Nat) (pa:Option Addr) (ca:Nat) (us:List OC):Prop where
 fH:Below tb w X
 out:Row oV X (tb+2) 166 (bC ⟨List.replicate 256 0,0,[],[]⟩ on on)
 tab:Row oV X (tb+3) 166 (bC ⟨cell,nb,[],[]⟩ ⟨.slice pn us.length cn,rfl⟩ ⟨.slice pa ac.length ca,rfl⟩)
 map:fF qN encS Tryz.prog 286 3 X (tb+4) ks
 yX:aT 3 jG X (tb+5) 286 (.slice po ks.length co) ks
 next:Mem.Own oV X (tb+5) 92 (.slice pn us.length cn) us
 rows:F2 (aei X (tb+5) N) us nx
 acc:Mem.Own Value.bool X (tb+5) 4 (.slice pa ac.length ca) ac
 sz:tb+5≤X.heap.size
 nN:N≤X.heap.size
section
variable {w X X':World} {tb N nb:Nat} {cell:List Nat} {ks:List Sx} {nx:List (List Nat)} {ac:List Bool} {po:Option Addr} {co:Nat} {pn:Option Addr} {cn:Nat} {pa:Option Addr} {ca:Nat} {us:List OC}
theorem lZ.grown (h:lZ w X tb N cell nb ks nx ac po co pn cn pa ca us) {row:Option Nat} (hg:X.grownBy X' row) (hr:∀g,row=some g→N≤g∧tb+5≤g∧(Value.slice po ks.length co).ownBlock≠some g∧(Value.slice pn us.length cn).ownBlock≠some g∧(Value.slice pa ac.length ca).ownBlock≠some g):lZ w X' tb N cell nb ks nx ac po co pn cn pa ca us:=by
 have hz:=h.sz;refine ⟨h.fH.grown hg (by omega) (fun k e=>by have:=(hr k e).2.1;omega),h.out.grown hg (fun e=>by have:=(hr _ e.symm).2.1;omega),h.tab.grown hg (fun e=>by have:=(hr _ e.symm).2.1;omega),h.map.kept hg (fun e=>by have:=(hr _ e.symm).2.1;omega),h.yX.grown hg (fun g hg' e=>(hr g e.symm).2.2.1 hg'),h.next.kept hg (fun g hg' e=>(hr g e).2.2.2.1 hg'),?_,h.acc.kept hg (fun g hg' e=>(hr g e).2.2.2.2 hg'),aL h.sz hg.size,aL h.nN hg.size⟩;refine bE ?_ h.rows;rintro u r ⟨g,e1,e2,e3,e4,e6⟩;exact ⟨g,e1,e2.grown hg (fun e=>by have:=(hr g e.symm).1;omega),e3,e4,e6⟩
theorem lZ.under (h:lZ w X tb N cell nb ks nx ac po co pn cn pa ca us) (hb:Below X.heap.size X X'):lZ w X' tb N cell nb ks nx ac po co pn cn pa ca us:=h.grown (Mem.bf hb none) (fun _ e=>by cases e)
theorem lZ.alloc (h:lZ w X tb N cell nb ks nx ac po co pn cn pa ca us) (o:Obj):lZ w (X.alloc o) tb N cell nb ks nx ac po co pn cn pa ca us:=h.grown (TN X o none) (fun _ e=>by cases e)
theorem lZ.mono (h:lZ w X tb N cell nb ks nx ac po co pn cn pa ca us) {M:Nat} (hM:N≤M) (hX:M≤X.heap.size):lZ w X tb M cell nb ks nx ac po co pn cn pa ca us:=
 ⟨h.fH,h.out,h.tab,h.map,h.yX,h.next,bE (fun _ _ ⟨g,e1,e2,e3,e4,e6⟩=>⟨g,e1,e2,e3,by omega,e6⟩) h.rows,h.acc,h.sz,hX⟩
theorem lZ.row (h:lZ w X tb N cell nb ks nx ac po co pn cn pa ca us) (g i:Nat) {l:List Nat} (hr:Row nV X g 3 l) (v:Value) (hg:N≤g) (hB:tb+5≤g):lZ w (X.setCell ⟨g,i,none⟩ v) tb N cell nb ks nx ac po co pn cn pa ca us:=
 h.grown (aI X g i v) (fun k e=>by
  injection e with e
  subst e
  exact ⟨hg,hB,fun e=>h.yX.row hr (by decide) _ e rfl,fun e=>lD h.next hr (by decide) _ e rfl,fun e=>lD h.acc hr (by decide) _ e rfl⟩)
theorem lZ.add (h:lZ w X tb N cell nb ks nx ac po co pn cn pa ca us) {W7:World} {t:Sx} (hm:fF qN encS Tryz.prog 286 3 W7 (tb+4) (ks++[t])) (QX:X.grownBy W7 (some (tb+4))) {o:Obj} {p:Option Addr} {c:Nat}
  (hO:aT 3 jG X' (tb+5) 286 (.slice p (ks++[t]).length c) (ks++[t])) (hG:(W7.alloc o).grownBy X' (Value.slice po ks.length co).ownBlock):lZ w X' tb N cell nb (ks++[t]) nx ac p c pn cn pa ca us:=by
 have hz:=h.sz;have hlt:=fun g e=>(h.yX.lt g e).1;have hrow:∀k l,Row nV X k 3 l→some k≠(Value.slice po ks.length co).ownBlock:=fun k l hk e=>h.yX.row hk (by decide) _ e.symm rfl;have g8:W7.grownBy X' (Value.slice po ks.length co).ownBlock:=⟨hG.os,hG.tape,hG.output,aL (by rw [bR];omega) hG.size,fun b hb hn=>(hG.block b (by rw [bR];omega) hn).trans (pM _ _ _ hb)⟩
 have s8:X.heap.size≤X'.heap.size:=aL QX.size g8.size;have hne:∀b,b<tb+5→some b≠(Value.slice po ks.length co).ownBlock:=fun b hb e=>by have:=hlt b e.symm;omega
 refine ⟨(h.fH.grown QX (by omega) (fun k e=>by injection e with e;omega)).grown g8 (by have:=QX.size;omega) (fun k e=>by have:=hlt k e;omega),(h.out.grown QX (fun e=>by injection e with e;omega)).grown g8 (hne _ (by omega)),(h.tab.grown QX (fun e=>by injection e with e;omega)).grown g8 (hne _ (by omega)),hm.kept g8 (hne _ (by omega)),hO,(h.next.kept QX (fun g hg e=>by have:=(h.next.lt g hg).1;injection e with e;omega)).kept g8 (fun g hg e=> ?_),?_,(h.acc.kept QX (fun g hg e=>by have:=(h.acc.lt g hg).1;injection e with e;omega)).kept g8 (fun g hg e=> ?_),aL hz s8,aL h.nN s8⟩
 ·exact h.yX.type h.next (by decide) g e hg.symm
 ·refine bE ?_ h.rows;rintro u r ⟨g,e1,e2,e3,e4,e6⟩;exact ⟨g,e1,(e2.grown QX (fun e=>by injection e with e;omega)).grown g8 (hrow g r e2),e3,e4,e6⟩
 ·exact h.yX.type h.acc (by decide) g e hg.symm
theorem lZ.CG (h:lZ w X tb N cell nb ks nx ac po co pn cn pa ca us) {g:Nat} {r:List Nat} (hr:Row nV X g 3 r) (hgB:tb+5≤g) (hr2:r.length≤256) (hcl:cell.length=256) {o:Obj} {p:Option Addr} {c:Nat} {u:OC} (hu:u.1= .slice (some ⟨g,0,none⟩) r.length r.length)
  (hO:Mem.Own oV X' (tb+5) 92 (.slice p (us++[u]).length c) (us++[u])) (hG:(X.alloc o).grownBy X' (Value.slice pn us.length cn).ownBlock) {M:Nat} (hM:N≤M) (hgM:g<M) (hMX:M≤X'.heap.size):
  lZ w (X'.setCell ⟨tb+3,257,none⟩ (.slice p (us++[u]).length c)) tb M cell nb ks (nx++[r]) ac po co p c pa ca (us++[u]):=by
 have h':=h.alloc o;have hz:=h'.sz;have hlt:=fun g e=>(h.next.lt g e).1;have hne:∀b,b<tb+5→some b≠(Value.slice pn us.length cn).ownBlock:=fun b hb e=>by have:=hlt b e.symm;omega
 have hgs:=aI X' (tb+3) 257 (.slice p (us++[u]).length c);have qC:∀b,b≠tb+3→some b≠some (tb+3):=fun b hb e=>hb (by injection e);have d1:=(h'.tab.grown hG (hne _ (by omega))).set 257 ⟨.slice p (us++[u]).length c,rfl⟩
 have e1:(bC ⟨cell,nb,[],[]⟩ ⟨.slice pn us.length cn,rfl⟩ ⟨.slice pa ac.length ca,rfl⟩).set 257 ⟨.slice p (us++[u]).length c,rfl⟩=bC ⟨cell,nb,[],[]⟩ ⟨.slice p (us++[u]).length c,rfl⟩ ⟨.slice pa ac.length ca,rfl⟩:=by
  unfold bC;rw [H9 _ _ (by rw [fD];show cell.length≤257;omega),fD];show _++List.set _ (257 - cell.length) _=_;rw [hcl];rfl
 rw [e1] at d1;have Jm:tb+5≤X'.heap.size:=aL h'.sz hG.size;refine ⟨(h'.fH.grown hG (by omega) (fun k e=>by have:=hlt k e;omega)).grown hgs (by omega) (fun k e=>by injection e with e;omega),(h'.out.grown hG (hne _ (by omega))).grown hgs (qC _ (by omega)),d1,(h'.map.kept hG (hne _ (by omega))).kept hgs (qC _ (by omega)),(h'.yX.grown hG (fun k hk e=>h'.yX.type (h.next.alloc o) (by decide) k hk e)).grown hgs (fun k hk=>qC _ (by have:=(h.yX.lt k hk).1;omega)),hO.kept hgs (fun k hk e=>qC k (by have:=(hO.lt k hk).1;omega) e.symm),?_,(h'.acc.kept hG (fun k hk e=>jc h.next h.acc (by decide) k e hk)).kept hgs (fun k hk e=>qC k (by have:=(h.acc.lt k hk).1;omega) e.symm),aL Jm hgs.size,aL hMX hgs.size⟩;refine CR (bE ?_ h.rows) ⟨g,hu,((hr.alloc o).grown hG (fun e=>lD h.next hr (by decide) _ e.symm rfl)).grown hgs (qC _ (by omega)),hgB,hgM,hr2⟩;rintro u' r' ⟨k,e1,e2,e3,e4,e6⟩;exact ⟨k,e1,((e2.alloc o).grown hG (fun e=>lD h.next e2 (by decide) _ e.symm rfl)).grown hgs (qC _ (by omega)),e3,by omega,e6⟩
theorem lZ.Dn (h:lZ w X tb N cell nb ks nx ac po co pn cn pa ca us) (hcl:cell.length=256) {o:Obj} {b:Bool} {p:Option Addr} {c:Nat}
  (hO:Mem.Own Value.bool X' (tb+5) 4 (.slice p (ac++[b]).length c) (ac++[b])) (hG:(X.alloc o).grownBy X' (Value.slice pa ac.length ca).ownBlock):
  lZ w (X'.setCell ⟨tb+3,258,none⟩ (.slice p (ac++[b]).length c)) tb N cell nb ks nx (ac++[b]) po co pn cn p c us:=by
 have h':=h.alloc o;have hz:=h'.sz;have hlt:=fun g e=>(h.acc.lt g e).1;have hne:∀b,b<tb+5→some b≠(Value.slice pa ac.length ca).ownBlock:=fun b hb e=>by have:=hlt b e.symm;omega
 have hgs:=aI X' (tb+3) 258 (.slice p (ac++[b]).length c);have qC:∀b,b≠tb+3→some b≠some (tb+3):=fun b hb e=>hb (by injection e);have d1:=(h'.tab.grown hG (hne _ (by omega))).set 258 ⟨.slice p (ac++[b]).length c,rfl⟩
 have e1:(bC ⟨cell,nb,[],[]⟩ ⟨.slice pn us.length cn,rfl⟩ ⟨.slice pa ac.length ca,rfl⟩).set 258 ⟨.slice p (ac++[b]).length c,rfl⟩=bC ⟨cell,nb,[],[]⟩ ⟨.slice pn us.length cn,rfl⟩ ⟨.slice p (ac++[b]).length c,rfl⟩:=by
  unfold bC;rw [H9 _ _ (by rw [fD];show cell.length≤258;omega),fD];show _++List.set _ (258 - cell.length) _=_;rw [hcl];rfl
 rw [e1] at d1;have Jm:tb+5≤X'.heap.size:=aL h'.sz hG.size;refine ⟨(h'.fH.grown hG (by omega) (fun k e=>by have:=hlt k e;omega)).grown hgs (by omega) (fun k e=>by injection e with e;omega),(h'.out.grown hG (hne _ (by omega))).grown hgs (qC _ (by omega)),d1,(h'.map.kept hG (hne _ (by omega))).kept hgs (qC _ (by omega)),(h'.yX.grown hG (fun k hk e=>h'.yX.type (h.acc.alloc o) (by decide) k hk e)).grown hgs (fun k hk=>qC _ (by have:=(h.yX.lt k hk).1;omega)),(h'.next.kept hG (fun k hk e=>jc h.acc h.next (by decide) k e hk)).kept hgs (fun k hk e=>qC k (by have:=(h.next.lt k hk).1;omega) e.symm),?_,hO.kept hgs (fun k hk e=>qC k (by have:=(hO.lt k hk).1;omega) e.symm),aL Jm hgs.size,aL (aL h'.nN hG.size) hgs.size⟩;refine bE ?_ h.rows;rintro u' r' ⟨k,e1,e2,e3,e4,e6⟩;exact ⟨k,e1,((e2.alloc o).grown hG (fun e=>lD h.acc e2 (by decide) _ e.symm rfl)).grown hgs (qC _ (by omega)),e3,e4,e6⟩
end
end
section
open Go Go.RowKit Mem
theorem NG (off:Nat):∀(l mid pre post:List Value) (k:Nat),mid.length=l.length→off+k=pre.length→
  (l.zipIdx k).foldl (fun (cs:Array Value) (x:Value×Nat)=>cs.setIfInBounds (off+x.2) x.1) (pre++mid++post).toArray=(pre++l++post).toArray
 | [],[],pre,post,k,_,_=>by simp
 | [],_::_,_,_,_,h,_=>by simp at h
 | _::_,[],_,_,_,h,_=>by simp at h
 | c::l,d::mid,pre,post,k,h,hk=>by
  rw [List.zipIdx_cons,qc9]
  have e:((pre++(d::mid)++post).toArray.setIfInBounds (off+k) c)=((pre++[c])++mid++post).toArray:=by
   rw [hk,zZ,ze,H9 _ _ (ah _),Fu];simp
  show List.foldl _ ((pre++(d::mid)++post).toArray.setIfInBounds (off+k) c) _=_;rw [e,NG off l mid (pre++[c]) post (k+1) (by simpa using h) (by simp;omega)];simp
theorem Xu (CA:Array Value) (cell:List Nat) (nb:Nat) (hCA:CA=(cell.map nV).toArray) (hcl:cell.length=256):
  ((Array.foldl (fun (cs:Array Value) (x:Value×Nat)=>cs.setIfInBounds x.snd x.fst) Tryz.zeroCells166 CA.zipIdx 0 CA.size).setIfInBounds 256 (.int .i64 (nb:Int)))=((bC ⟨cell,nb,[],[]⟩ on on).map oV).toArray:=by
 have h:Tryz.zeroCells166=((List.replicate 256 (Value.int .i64 0))++[Value.int .i64 0, .slice none 0 0, .slice none 0 0]).toArray:=by kernel_rfl
 rw [h,hCA];have hf:=NG 0 (cell.map nV) (List.replicate 256 (Value.int .i64 0)) [] [Value.int .i64 0, .slice none 0 0, .slice none 0 0] 0 (by simp [hcl]) rfl;rw [J4,J4] at hf
 have e2:Array.foldl (fun (cs:Array Value) (x:Value×Nat)=>cs.setIfInBounds x.snd x.fst) ((List.replicate 256 (Value.int .i64 0))++[Value.int .i64 0, .slice none 0 0, .slice none 0 0]).toArray (cell.map nV).toArray.zipIdx 0 (cell.map nV).toArray.size=(cell.map nV++[Value.int .i64 0, .slice none 0 0, .slice none 0 0]).toArray:=by
  have hz:(cell.map nV).toArray.size=(cell.map nV).toArray.zipIdx.size:=by simp
  rw [← hf,hz,← Array.foldl_toList,Array.toList_zipIdx];simp only [nR]
 rw [e2,zZ,H9 _ _ (by simp [hcl])];simp [hcl,bC,oV,oi];rfl
structure NxC (w:World) (g:FuncId) (cp:Array Value) (ok:Sx→Prop) (bs:List Nat) (cB:Sx→Nat→Sx):Prop where
 en:∀(args:Array Value) (w:World),Sem.run Tryz.prog (callFunc g args) w= .ok (.enter g args) w
 ca:∀X,Below w.heap.size w X→∀s,ok s→∀c∈bs,Calls Tryz.prog g (#[.agg (dz s), .int .i64 (c:Int)]++cp) X fun e X'=>e= .returned (.agg (dz (cB s c)))∧Below X.heap.size X X'
structure AcC (w:World) (g:FuncId) (cp:Array Value) (ok:Sx→Prop) (acc:Sx→Bool):Prop where
 en:∀(args:Array Value) (w:World),Sem.run Tryz.prog (callFunc g args) w= .ok (.enter g args) w
 ca:∀X,Below w.heap.size w X→∀s,ok s→Calls Tryz.prog g (#[.agg (dz s)]++cp) X fun e X'=>e= .returned (.bool (acc s))∧Below X.heap.size X X'
theorem aae:bU Tryz.prog 152 256:=⟨fun _=>by kernel_rfl,fun _=>by kernel_rfl⟩
def Bv (w:World) (vn va:OC) (T:TB):Prop:=∀X,dQ w X→vU X vn.1 T.nx∧Rd Value.bool X va.1 T.ac
theorem Bv.keep {w w':World} {vn va:OC} {T:TB} (h:Bv w vn va T) (hk:dQ w w'):Bv w' vn va T:=fun X hX=>h X (hk.trans hX)
def ab3 (w':World) (e:Ending):Option TB→Prop
 | none=>e= .returned (.tuple #[.agg gu, .bool false])
 | some T=>∃tn ta:OC,e= .returned (.tuple #[.agg ((bC T tn ta).map oV).toArray, .bool true])∧Bv w' tn ta T∧T.cell.length=256
theorem MX (w:World) (CA:Array Value) (cell:List Nat) (hCA:CA=(cell.map nV).toArray) (hcl:cell.length=256) (vb:Value) (bs:List Nat) (hb:Rd nV w vb bs) (hb256:bs.length≤256)
  (ok:Sx→Prop) (start:Sx) (hs:ok start) (hok:∀s,ok s→qN s) (cB:Sx→Nat→Sx) (acc:Sx→Bool) (hnx:∀s,ok s→∀c∈bs,ok (cB s c)) (gn ga:FuncId) (cn ca:Array Value) (hN:NxC w gn cn ok bs cB) (hA:AcC w ga ca ok acc) (m K:Nat) (hm:1≤m) (hm2:m≤1073741824) (hK:∀l:List Sx,XOk ok m l→l.length≤K) (Zn:K≤65535):
  Calls Tryz.prog 184 #[.agg CA,vb, .agg (dz start), .func (.func gn) #[] cn, .func (.func ga) #[] ca, .int .i64 (m:Int)] w fun e w'=>Below w.heap.size w w'∧ab3 w' e (vP cell bs start cB acc m K):=by
 obtain ⟨pb,kb,rfl⟩:=hb.slice;have HB:=af hb;have HN:=af hN;have HA:=af hA;have ad4:=af hok;have HNX:=af hnx;have HK:=af hK;have HS:=af hs;obtain ⟨n,Hn⟩:∃n,Hid (bs.length=n):=⟨_,af rfl⟩
 rw [Hn.out] at hb256 HB ⊢;have r0:Row nV (w.alloc (.cells CA 152)) w.heap.size 152 cell:=Row.new _ _ (by rw [hCA]);have EC:=af hCA;have qW:=af hcl;have hA2:bU Tryz.prog 152 cell.length:=by rw [hcl];exact aae
 have s0:(w.alloc (.cells CA 152)).heap.size=w.heap.size+1:=bR _ _;have b0:Below w.heap.size w (w.alloc (.cells CA 152)):=(au _ _).alloc (ah _) _
 have r1:Row oV ((w.alloc (.cells CA 152)).alloc (.cells (dz start) 286)) (w.heap.size+1) 286 (jG start):=by
  have h:=Row.new (f:=oV) (w.alloc (.cells CA 152)) (t:=286) (l:=jG start) (.cells (dz start) 286) rfl
  rwa [s0] at h
 have s1:((w.alloc (.cells CA 152)).alloc (.cells (dz start) 286)).heap.size=w.heap.size+2:=by rw [bR,s0]
 clear hb hN hA hok hnx hK hs hCA hcl;go_enter Tryz.func184,Tryz.ntmps184;go_upto_region 1 with ((with_reducible refine gI (t:=166) gu uE ?_ ?_ (w.heap.size+2) ?_ ?_);rfl;rfl;exact s1);have r0':=(r0.alloc (.cells (dz start) 286)).alloc (.cells gu 166);have r1':=r1.alloc (.cells gu 166);have b2:=(b0.alloc (by rw [s0];omega) (.cells (dz start) 286)).alloc (by rw [s1];omega) (.cells gu 166)
 have r2:Row oV (((w.alloc (.cells CA 152)).alloc (.cells (dz start) 286)).alloc (.cells gu 166)) (w.heap.size+2) 166 (bC ⟨List.replicate 256 0,0,[],[]⟩ on on):=by
  have h:=Row.new (f:=oV) ((w.alloc (.cells CA 152)).alloc (.cells (dz start) 286)) (t:=166) (l:=bC ⟨List.replicate 256 0,0,[],[]⟩ on on) (.cells gu 166) rfl
  rwa [s1] at h
 have s2:(((w.alloc (.cells CA 152)).alloc (.cells (dz start) 286)).alloc (.cells gu 166)).heap.size=w.heap.size+3:=by rw [bR,s1]
 generalize (((w.alloc (.cells CA 152)).alloc (.cells (dz start) 286)).alloc (.cells gu 166))=W at r0' r1' r2 b2 s2 ⊢;clear r0 s0 b0 r1 s1;obtain ⟨C0,tq⟩:∃C,Hid (C=((bC ⟨cell,n,[],[]⟩ on on).map oV).toArray):=⟨_,af rfl⟩
 have hbu:=Xu CA cell n EC.out qW.out;have aeO:CA.size=256:=by rw [EC.out];simp [qW.out]
 rw [← tq.out,aeO] at hbu;obtain ⟨F1,hF1⟩:∃F,Array.foldl (fun (cs:Array Value) (x:Value×Nat)=>cs.setIfInBounds x.snd x.fst) Tryz.zeroCells166 CA.zipIdx 0 256=F:=⟨_,rfl⟩
 rw [hF1] at hbu
 have hF2:F1.size=259:=by
  have h:=congrArg Array.size hbu;rw [tq.out] at h;simpa [bC,qW.out] using h
 have r3:Row oV (W.alloc (.cells gu 166)) (w.heap.size+3) 166 (bC ⟨List.replicate 256 0,0,[],[]⟩ on on):=by
  have h:=Row.new (f:=oV) W (t:=166) (l:=bC ⟨List.replicate 256 0,0,[],[]⟩ on on) (.cells gu 166) rfl
  rwa [s2] at h
 have b3:=b2.alloc (by rw [s2];omega) (.cells gu 166);have r13:=r1'.alloc (.cells gu 166);have r23:=r2.alloc (.cells gu 166);have s3:(W.alloc (.cells gu 166)).heap.size=w.heap.size+4:=by rw [bR,s2]
 have x9:bU Tryz.prog 166 (bC ⟨cell,n,[],[]⟩ on on).length:=by rw [aW _ _ qW.out];exact jd
 have Ro:(bC ⟨cell,n,[],[]⟩ on on).length=(bC ⟨List.replicate 256 0,0,[],[]⟩ on on).length:=by rw [aW _ _ qW.out,aW _ _ (by simp)]
 go_upto_region 2 with (first
  | ((with_reducible refine zL r0'.at hA2 EC.out ?_))
  | ((with_reducible refine gI (t:=166) gu uE ?_ ?_ (w.heap.size+3) ?_ ?_);rfl;rfl;exact s2)
  | ((with_reducible refine aK (f:=oV) (l:=bC ⟨List.replicate 256 0,0,[],[]⟩ on on) (l':=bC ⟨cell,n,[],[]⟩ on on) (t:=166) (C:=C0) x9 (.tmp 14) (.tmp 27) ?_ ?_ (w.heap.size+3) ?_ tq.out ?_ r3 Ro bF ?_);rfl;rfl;rfl;(first | rfl | exact congrArg Value.agg hbu);(intro W6 hs6 dw gP)))
 have b6:=b3.grown dw (by omega) (fun k e=>by injection e with e;omega);have r16:=r13.grown dw (by simp);have r26:=r23.grown dw (by simp);have s6:=gP.trans s3;clear aeO hF1 hF2 r0' r1' r2 b2 s2 r3 b3 r13 r23 s3 hbu dw gP Ro x9 tq hA2;clear F1 W;obtain ⟨tb,dF⟩:∃tb,Hid (w.heap.size=tb):=⟨_,af rfl⟩
 rw [dF.out] at b6 r16 r26 s6 hs6 ⊢;have hmm:= @run_makeMap Tryz.prog
 have hmp:fF qN encS Tryz.prog 286 3 (W6.alloc (.map #[] 0)) (tb+4) []:=by
  have h:=fF.made (ok:=qN) (enc:=encS) (P:=Tryz.prog) (K:=286) (E:=3) W6
  rwa [s6] at h
 have r17:=r16.alloc (.map #[] 0);have HOS:Hid (qN start):=af (ad4.out _ HS.out);have hkey:=Wn start HOS.out
 go_upto_region 3 with (first
  | ((with_reducible refine zL r17.at lQ (kT start) ?_))
  | ((with_reducible refine aai hmp ?_ (.tmp 28) (.tmp 29) (.const (.int .i64 0)) ?_ kS Tryz.underlying340 Tryz.underlying3 MW NT ?_ start HOS.out (by simp) (by simp) (.agg (dz start)) ?_ hkey ?_ ?_);rfl;rfl;rfl;rfl;rfl;(intro W7 uD gL)))
 have gP:(W6.alloc (.map #[] 0)).heap.size=tb+5:=by rw [bR,s6]
 have r18:=r17.grown gL (by simp);have r28:=(r26.alloc (.map #[] 0)).grown gL (by simp);have t8:=(hs6.alloc (.map #[] 0)).grown gL (by simp);have b8:=(b6.alloc (by rw [s6];omega) (.map #[] 0)).grown gL (by rw [gP];omega) (fun k e=>by injection e with e;omega);have vZ:tb+5≤W7.heap.size:=by have h:=gL.size;rw [gP] at h;exact h
 clear hmm hmp r16 r17 r26 b6 s6 hs6 gL gP hkey;clear W6;have hks:∀x:Sx,Array.foldl (fun (cs:Array Value) (x:Value×Nat)=>cs.setIfInBounds x.snd x.fst) #[Value.int .i64 0,Value.int .i64 0,Value.int .u64 0] (dz x).zipIdx 0 3=dz x:=fun x=>rfl;have eP:∀x:Sx,(dz x).size=3:=fun x=>rfl;go_upto_region 4 with ((with_reducible refine zL r18.at lQ (kT start) ?_));have hL0:aT 3 jG (W7.alloc (.cells (dz start) 286)) (tb+5) 286 (.slice (some ⟨W7.heap.size,0,none⟩) 1 1) [start]:=YW W7 rfl vZ Df start (kT start)
 have hX0:lZ w (W7.alloc (.cells (dz start) 286)) tb (tb+5) cell n [start] [] [] (some ⟨W7.heap.size,0,none⟩) 1 none 0 none 0 []:=
  ⟨b8.alloc (by omega) _,r28.alloc _,t8.alloc _,uD.alloc _,hL0,Own.nil _ _ _, .nil,Own.nil _ _ _,by rw [bR];omega,by rw [bR];omega⟩
 have hG0:Hid (vP cell bs start cB acc m K=(xF m cB acc bs (K - 0) 0 ⟨[start],[],[]⟩).map fun a=>⟨cell,bs.length,a.nx,a.ac⟩):=af rfl;have vz:XA.Ok ok m bs.length 0 ⟨[start],[],[]⟩:=VI HS.out hm;rw [Hn.out] at vz;generalize (W7.alloc (.cells (dz start) 286))=W8 at hX0 ⊢;generalize (some (⟨W7.heap.size,0,none⟩:Addr))=p0 at hX0 ⊢;clear hL0 r28 t8 b8 uD r18 vZ;clear W7;generalize Value.agg C0=vC0;generalize Value.agg (dz start)=vS0;generalize Value.agg CA=vCA;go_wp2_with fail
 go_loopw [16,17] (fun s16 s17 wr=>∃(i:Nat) (a:XA) (po:Option Addr) (co:Nat) (pn:Option Addr) (cn:Nat) (pa:Option Addr) (ca:Nat) (us:List OC) (N:Nat),s17= .int .i64 i∧s16= .slice po a.ks.length co∧Hid (vP cell bs start cB acc m K=(xF m cB acc bs (K - i) i a).map fun a=>⟨cell,bs.length,a.nx,a.ac⟩)∧Hid (XA.Ok ok m n i a)∧lZ w wr tb N cell n a.ks a.nx a.ac po co pn cn pa ca us) (fun _ s17 _=>K - (intOf s17).toNat)
 case atStart=>exact ⟨0,⟨[start],[],[]⟩,p0,1,none,0,none,0,[],tb+5,rfl,rfl,hG0,af vz,hX0⟩
 case round=>
  clear hX0 hG0 vz;obtain ⟨i,a,po,co,pn,c2,pa,c3',us,N,rfl,rfl,HG,HO,hX⟩:=hrel;by_cases hlt:i<a.ks.length
  ·have hq:(i:Int)<(a.ks.length:Int):=by omega
   have hkK:a.ks.length≤K:=HK.out _ HO.out.toXOk;have hkm:a.ks.length≤m:=HO.out.le;obtain ⟨s,Hs⟩:∃s,Hid (a.ks.getD i jX=s):=⟨_,af rfl⟩
   have HSI:Hid (ok s):=af (by rw [← Hs.out];exact HO.out.ok _ (aO _ _ _ hlt));obtain ⟨MB,nM⟩:∃C,Hid (C=((List.replicate n 0).map nV).toArray):=⟨_,af rfl⟩
   have hmk:∀w:World,(Instr.makeSlice 92 (.int .i64 (n:Int)) (.int .i64 (n:Int))).run Tryz.prog w= .ok (.slice (some ⟨w.heap.size,0,none⟩) n n) (w.alloc (.cells MB 3)):=fun w=>by rw [nM.out];exact tZ w n (by omega)
   have BV:Row nV (wr.alloc (.cells MB 3)) wr.heap.size 3 (List.replicate n 0):=Row.new _ _ (by rw [nM.out]);have hX1:=(hX.alloc (.cells MB 3)).mono (M:=wr.heap.size) hX.nN (by rw [bR];omega);have hgN:=hX.nN;have hgB:=hX.sz;have hg1:wr.heap.size+1≤(wr.alloc (.cells MB 3)).heap.size:=by rw [bR];exact ah _
   have Jv:XS.Ok ok m ⟨a.ks,[]⟩:={toXOk:=HO.out.toXOk,rb:=by simp}
   go_upto_region 9 with (fail);obtain ⟨g1,Hg1⟩:∃g,Hid (wr.heap.size=g):=⟨_,af rfl⟩
   rw [Hg1.out] at BV hX1 hgN hgB hg1 ⊢;generalize (wr.alloc (.cells MB 3))=W1 at BV hX1 hg1 ⊢;clear hX hmk nM;go_wp2_with fail
   go_loopw [16,44] (fun s16 s44 wq=>∃(j:Nat) (st:XS) (po:Option Addr) (co:Nat),j≤n∧s44= .int .i64 j∧s16= .slice po st.ks.length co∧Hid (qM m cB s (bs.take j) ⟨a.ks,[]⟩=some st)∧Hid (st.Ok ok m∧st.row.length=j∧∃z,st.ks=a.ks++z)∧lZ w wq tb g1 cell n st.ks a.nx a.ac po co pn c2 pa c3' us∧Row nV wq g1 3 (st.row++List.replicate (n - j) 0)∧g1+1≤wq.heap.size) (fun _ s44 _=>n - (intOf s44).toNat)
   case atStart=>exact ⟨0,⟨a.ks,[]⟩,po,co,Mg _,rfl,rfl,af rfl,af ⟨Jv,rfl,[],(Cm _).symm⟩,hX1,by simpa using BV,hg1⟩
   case round=>
    clear BV hX1 hg1 Jv;clear W1;obtain ⟨j,st,p2,k2,hj,rfl,rfl,HXR,HST,hX,hR,hg1⟩:=hrel;by_cases hjn:j<n
    ·have hjq:(j:Int)<(n:Int):=by omega
     obtain ⟨cb,cO,rfl,hct⟩:=iT HB.out j hjn;have hBW:Below w.heap.size w wr:=by rw [dF.out];exact hX.fH
     have ct:=hct wr hBW;have hjb:j<bs.length:=by rw [Hn.out];exact hjn
     obtain ⟨c,Hc⟩:∃c,Hid (bs.getD j 0=c):=⟨_,af rfl⟩
     have HCM:Hid (c∈bs):=af (by rw [← Hc.out];exact aO _ _ _ hjb);rw [Hc.out] at ct;have hkl:a.ks.length≤st.ks.length:=by obtain ⟨_,_,z,hz⟩:=HST.out;rw [hz,fq];omega
     have hil:i<st.ks.length:=by omega
     have hiq:(i:Int)<(st.ks.length:Int):=by omega
     have hgi:st.ks[i]=s:=by
      obtain ⟨_,_,z,hz⟩:=HST.out;rw [← Hs.out,dD,bM hlt];simp only [hz];rw [Jt hlt];rfl
     obtain ⟨g,rfl,hgl,hat⟩:=gG Df hX.yX i hil;rw [hgi] at hat;have hen:=HN.out.en;clear hct hkl hil hgi;go_wp2_with ((with_reducible refine zL hat lQ rfl (C:=dz s) ?_));refine (HN.out.ca _ hBW s HSI.out c HCM.out).mono ?_;rintro e W2 ⟨rfl,hB2⟩;obtain ⟨t,Ht⟩:∃t,Hid (cB s c=t):=⟨_,af rfl⟩
     have HTI:Hid (ok t):=af (by rw [← Ht.out];exact HNX.out _ HSI.out _ HCM.out)
     have aa5:Hid (qM m cB s (bs.take (j+1)) ⟨a.ks,[]⟩=Jq m st t):=af (by
      have e:bs[j]=c:=by rw [← Hc.out,dD,bM hjb];rfl
      rw [IX _ _ _ _ _ _ hjb,HXR.out,e,Ht.out];rfl)
     rw [Ht.out];have hX2:=hX.under hB2;have hR2:=hR.below hB2 (by omega);have hg2:=aL hg1 hB2.size;clear hB2 hX hR hg1 hat hen ct hBW hgl;obtain ⟨kb2,wN⟩:∃k,Hid (W2.heap.size=k):=⟨_,af rfl⟩
     have hk0:Row oV (W2.alloc (.cells #[.int .i64 0, .int .i64 0, .int .u64 0] 286)) W2.heap.size 286 (jG jX):=Row.new _ _ rfl;have Fj:=hX2.alloc (.cells #[.int .i64 0, .int .i64 0, .int .u64 0] 286);have Fq:=hR2.alloc (.cells #[.int .i64 0, .int .i64 0, .int .u64 0] 286);have adW:=hX2.nN;have aeK:=hX2.sz;have hgr:=bR W2 (.cells #[.int .i64 0, .int .i64 0, .int .u64 0] 286);rw [wN.out] at hk0 adW aeK hgr hg2;go_upto_region 12 with ((with_reducible refine aK (f:=oV) (l:=jG jX) (l':=jG t) (t:=286) (C:=dz t) lQ (.tmp 21) (.tmp 55) ?_ ?_ kb2 ?_ rfl ?_ hk0 rfl bF ?_);rfl;rfl;(first | rfl | exact congrArg (fun n=>Value.pointer (some ⟨n,0,none⟩)) wN.out);rfl;(intro W3 hs3 hG3 hz3));rw [wN.out]
     have yf:=Fj.grown hG3 (fun k e=>by
      injection e with e
      subst e
      exact ⟨adW,aeK,fun e=>by have h1:=(hX2.yX.lt _ e).2;have h2:=wN.out;omega,fun e=>by have h1:=(hX2.next.lt _ e).2;have h2:=wN.out;omega,fun e=>by have h1:=(hX2.acc.lt _ e).2;have h2:=wN.out;omega⟩)
     have JH:=Fq.grown hG3 (by simp;omega);have hg4:g1+1≤W3.heap.size:=by rw [hz3,hgr];omega
     have hkn:kb2<W3.heap.size:=hs3.lt;clear hk0 Fj Fq hG3 hz3 hgr hX2 hR2 wN;clear W2 wr;have P8:Hid (qN t):=af (ad4.out _ HTI.out);have qK:Hid (Go.keyOf Tryz.prog 286 (.agg (dz t))=some (encS t)):=af (Wn t P8.out);have hz:∀w:World,(zeroValue 3).run Tryz.prog w= .ok (.int .i64 0) w:=fun w=>by kernel_rfl
     have hmp:=yf.map;have LH:Hid (Jq m st t=if t∈st.ks then some {st with row:=st.row++[st.ks.idxOf t]} else if st.ks.length=m then none else some ⟨st.ks++[t],st.row++[st.ks.length]⟩):=af rfl;obtain ⟨hS1,hS2,vK⟩:=HST.out;have ahI:st.ks.length≤K:=HK.out _ hS1.toXOk;have hrl:(st.row++List.replicate (n - j) 0).length=n:=by rw [fq,Tw,hS2];omega
     have hjr:j<(st.row++List.replicate (n - j) 0).length:=by rw [hrl];exact hjn
     have hsn:∀q:Nat,(st.row++List.replicate (n - j) 0).set j q=(st.row++[q])++List.replicate (n - (j+1)) 0:=fun q=>zo hS2 hjn;have HSN:=af hsn;clear hsn hS1;by_cases hm:t∈st.ks
     ·rw [aC hm] at LH;obtain ⟨q,Hq⟩:∃q,Hid (@List.idxOf _ instBEqOfDecidableEq t st.ks=q):=⟨_,af rfl⟩
      have hqe:st.ks.idxOf t=q:=by rw [← Hq.out];first | rfl | (rw [← Kt])
      rw [hqe] at LH;have HM:=af hm;clear hm hqe;have c3:=fu JH j hjr;have f3:=JH.frozen j;have wh:=yf.row g1 j JH (.int .i64 (q:Int)) (ah _) hgB;have hR5:=JH.set j q;rw [HSN.out q] at hR5;have hg5:=aL hg4 (aI W3 g1 j (.int .i64 (q:Int))).size;have HX5:Hid (lZ w (W3.setCell ⟨g1,j,none⟩ (.int .i64 (q:Int))) tb g1 cell n st.ks a.nx a.ac (some ⟨g,0,none⟩) k2 pn c2 pa c3' us∧Row nV (W3.setCell ⟨g1,j,none⟩ (.int .i64 (q:Int))) g1 3 ((st.row++[q])++List.replicate (n - (j+1)) 0)∧g1+1≤(W3.setCell ⟨g1,j,none⟩ (.int .i64 (q:Int))).heap.size):=af ⟨wh,hR5,hg5⟩
      have HS5:Hid (XS.Ok ok m {st with row:=st.row++[q]}∧(st.row++[q]).length=j+1∧∃z,st.ks=a.ks++z):=af (by
       obtain ⟨h1,h2,h3⟩:=HST.out
       exact ⟨(Ki h1 HTI.out LH.out).1,by rw [fq,h2];rfl,h3⟩)
      clear yf JH hg4 wh hR5 hg5
      go_wp2_with (first
       | ((with_reducible refine zL hs3.at lQ rfl (C:=dz t) ?_))
       | (at_lookup;(with_reducible refine oW hmp ?_ (.tmp 57) (.tmp 58) ?_ kS Tryz.underlying340 Tryz.underlying3 (hz _) ?_ t P8.out HM.out q Hq.out _ ?_ qK.out ?_);rfl;rfl;rfl;rfl))
      go_roundw
      case rel=>exact ⟨j+1,{st with row:=st.row++[q]},_,k2,by omega,by go_num,rfl,af (aa5.out.trans LH.out),HS5,HX5.out.1,HX5.out.2.1,HX5.out.2.2⟩
      case measure=>simp [intOf];omega
     ·rw [aF hm] at LH;have HM:=af hm;clear hm;by_cases hcap:st.ks.length=m
      ·rw [aC hcap] at LH;have hci:(st.ks.length:Int)=(m:Int):=by omega
       have HE:Hid (vP cell bs start cB acc m K=none):=af (by
        have h1:qM m cB s (bs.take (j+1)) ⟨a.ks,[]⟩=none:=aa5.out.trans LH.out
        have h2:=TJ m cB s bs ⟨a.ks,[]⟩ (j+1) h1
        rw [HG.out,Ri m cB acc bs K i a hlt hkK,Hs.out,h2];rfl)
       have hout:=yf.out;have HX4:=af yf;have V9:bU Tryz.prog 166 (bC ⟨List.replicate 256 0,0,[],[]⟩ on on).length:=by rw [aW _ _ (by simp)];exact jd
       have hZC:Tryz.zeroCells166=((bC ⟨List.replicate 256 0,0,[],[]⟩ on on).map oV).toArray:=by kernel_rfl
       clear yf
       go_wp2_with (first
        | ((with_reducible refine zL hs3.at lQ rfl (C:=dz t) ?_))
        | (at_lookup;(with_reducible refine nL hmp ?_ (.tmp 57) (.tmp 58) ?_ kS Tryz.underlying340 Tryz.underlying3 (hz _) ?_ t P8.out HM.out _ ?_ qK.out ?_);rfl;rfl;rfl;rfl)
        | ((with_reducible refine aK (f:=oV) (l:=bC ⟨List.replicate 256 0,0,[],[]⟩ on on) (l':=bC ⟨List.replicate 256 0,0,[],[]⟩ on on) (t:=166) (C:=Tryz.zeroCells166) V9 (.tmp 12) (.tmp 69) ?_ ?_ (tb+2) ?_ hZC ?_ hout rfl bF ?_);rfl;rfl;rfl;rfl;(intro W9 iO dB tY)))
       have dV:Below tb w W9:=HX4.out.fH.grown dB (by have:=HX4.out.sz;omega) (fun k e=>by injection e with e;omega);refine fJ (v:= .tuple #[.agg ((bC ⟨List.replicate 256 0,0,[],[]⟩ on on).map oV).toArray, .bool false]) (bG (f:=oV) (l:=bC ⟨List.replicate 256 0,0,[],[]⟩ on on) (t:=13) rfl _ V9 (tb+2) 0 rfl iO.at) rfl ?_;refine ⟨by rw [dF.out];exact dV,?_⟩;rw [HE.out];exact rfl
      ·rw [aF hcap] at LH;have hci:¬(st.ks.length:Int)=(m:Int):=by omega
       obtain ⟨Zz,RL⟩:∃l,Hid (st.ks++[t]=l):=⟨_,af rfl⟩
       obtain ⟨L,HL⟩:∃L,Hid (st.ks.length=L):=⟨_,af rfl⟩
       have HO4:=af yf.yX;have HX4:=af yf;have HR4:=af JH;have hkl:st.ks.length<1000000000:=by omega
       have Hkl:=af hkl;have Hl1:Hid ((st.ks.length+1) * 24≤140737488355328):=af (by omega);have Hl2:Hid (st.ks.length+1≤140737488355328):=af (by omega);clear yf JH hkl
       go_wp2_with (first
        | ((with_reducible refine zL hs3.at lQ rfl (C:=dz t) ?_))
        | (at_lookup;(with_reducible refine nL hmp ?_ (.tmp 57) (.tmp 58) ?_ kS Tryz.underlying340 Tryz.underlying3 (hz _) ?_ t P8.out HM.out _ ?_ qK.out ?_);rfl;rfl;rfl;rfl)
        | (at_mapUpdate;(with_reducible refine DK hmp ?_ (.tmp 70) (.tmp 71) (.tmp 72) ?_ kS Tryz.underlying340 Tryz.underlying3 MW NT ?_ t P8.out HM.out Hkl.out _ ?_ qK.out ?_ ?_);rfl;rfl;rfl;rfl;rfl;(intro W7 uD gL);(have hs7:=hs3.grown gL (by simp;omega));(have xQ:=HO4.out.grown gL (fun g hg e=>by have:=(HO4.out.lt g hg).1;injection e with e;omega));(have vZ:tb+5≤W7.heap.size:=aL HX4.out.sz gL.size);(have yl:=HR4.out.grown gL (by simp;omega)))
        | ((with_reducible refine zL hs7.at lQ rfl (C:=dz t) ?_))
        | (at_builtin;(with_reducible refine oF afa (by decide) Df (.tmp 73) (.tmp 75) ?_ ?_ ?_ xQ t (dz t) (kT t) 286 ?_ Hl1.out Hl2.out vZ Zz RL.out ?_);rfl;rfl;rfl;rfl;(intro p8 k8 W8 mQ jC iC);(have Vv:=(yl.alloc (.cells (dz t) 286)).grown iC (fun e=>HO4.out.row HR4.out (by decide) _ e.symm rfl));(have c3:=fu Vv j hjr);(have f3:=Vv.frozen j)))
       have HF:Hid (lZ w (W8.setCell ⟨g1,j,none⟩ (.int .i64 (st.ks.length:Int))) tb g1 cell n Zz a.nx a.ac p8 k8 pn c2 pa c3' us∧Row nV (W8.setCell ⟨g1,j,none⟩ (.int .i64 (st.ks.length:Int))) g1 3 ((st.row++[st.ks.length])++List.replicate (n - (j+1)) 0)∧g1+1≤(W8.setCell ⟨g1,j,none⟩ (.int .i64 (st.ks.length:Int))).heap.size):=af (by
        rw [← RL.out] at mQ ⊢
        have h8:=HX4.out.add uD gL mQ iC
        refine ⟨h8.row g1 j Vv _ (ah _) hgB,?_,?_⟩
        ·have h:=Vv.set j st.ks.length
         rwa [HSN.out] at h
        ·have h1:=gL.size
         have h2:=iC.size
         rw [bR] at h2
         have h3:=(aI W8 g1 j (.int .i64 (st.ks.length:Int))).size
         omega)
       have HS6:Hid (XS.Ok ok m ⟨Zz,st.row++[st.ks.length]⟩∧(st.row++[st.ks.length]).length=j+1∧∃z,Zz=a.ks++z):=af (by
        obtain ⟨h1,h2,z,h3⟩:=HST.out
        have h4:=(Ki h1 HTI.out LH.out).1
        rw [RL.out] at h4
        exact ⟨h4,by rw [fq,h2];rfl,z++[t],by rw [← RL.out,h3,ze]⟩)
       have HXE:Hid (qM m cB s (bs.take (j+1)) ⟨a.ks,[]⟩=some ⟨Zz,st.row++[st.ks.length]⟩):=af (by rw [aa5.out,LH.out,RL.out]);clear uD gL hs7 xQ vZ yl mQ jC iC Vv c3 f3
       go_roundw
       case rel=>exact ⟨j+1,⟨Zz,st.row++[st.ks.length]⟩,p8,k8,by omega,by go_num,rfl,HXE,HS6,HF.out.1,HF.out.2.1,HF.out.2.2⟩
       case measure=>simp [intOf];omega
    ·obtain rfl:j=n:=by omega
     rw [Fu,qcH,Cm] at hR
     have HXE:Hid (qM m cB s bs ⟨a.ks,[]⟩=some st):=af (by
      have h:=HXR.out
      rwa [qj (by rw [Hn.out];exact ah _)] at h)
     obtain ⟨hS1,hS2,zz,vK⟩:=HST.out;have HS1:=af hS1;have HS2:=af hS2;have HS4:=af vK;have af7:i<st.ks.length:=by rw [vK,fq];omega
     have hgi:st.ks[i]=s:=by
      rw [← Hs.out,dD,bM hlt];simp only [vK];rw [Jt hlt];rfl
     have Hgi:=af hgi;clear hS1 hS2 vK hgi;have rV:us.length=i:=by rw [l7 hX.rows];exact HO.out.nl
     have age:us.length≤65535:=by omega
     have c1B:wr.cell? ⟨tb+3,257,none⟩=some (.slice pn us.length c2):=by rw [hX.tab.cell?,show 257=256+1 from rfl,kK _ _ qW.out];rfl
     have f1B:=hX.tab.frozen 257;have uu:=hX.sz;have hO3:=hX.next;obtain ⟨y,Hy⟩:∃y:OC,Hid (y.1= .slice (some ⟨g1,0,none⟩) j j):=⟨⟨.slice (some ⟨g1,0,none⟩) j j,rfl⟩,af rfl⟩
     have hyo:Value.slice (some ⟨g1,0,none⟩) j j=oV y:=Hy.out.symm;obtain ⟨vI,CF⟩:∃l,Hid (us++[y]=l):=⟨_,af rfl⟩
     have Uf:=af (hX.alloc (.cells #[.slice (some ⟨g1,0,none⟩) j j] 92)).tab;have UU:Hid (some (tb+3)≠(Value.slice pn us.length c2).ownBlock):=af (fun e=>by have:=(hO3.lt _ e.symm).1;omega);have Hyo:=af hyo;have HX:=af hX;have HR:=af hR;have Il:=af rV;have hL1:Hid ((us.length+1) * 24≤140737488355328):=af (by omega);have hL2:Hid (us.length+1≤140737488355328):=af (by omega);clear hyo rV hX hR;go_upto_region 22 with (at_builtin;(with_reducible refine eG Tx (.tmp 83) (.tmp 85) ?_ ?_ bF ?_ hO3 y _ ?_ _ ?_ hL1.out hL2.out uu vI CF.out ?_);rfl;rfl;rfl;(exact Hyo.out);rfl;(intro p8 c8 W8 mQ jC iC);(have JJ:=Uf.out.grown iC UU.out);(have SE:W8.cell? ⟨tb+3,257,none⟩=some (.slice pn us.length c2):=by rw [JJ.cell?,show 257=256+1 from rfl,kK _ _ qW.out];rfl);(have QJ:=JJ.frozen 257))
     have oh:lZ w (W8.setCell ⟨tb+3,257,none⟩ (.slice p8 vI.length c8)) tb W8.heap.size cell j st.ks (a.nx++[st.row]) a.ac p2 k2 p8 c8 pa c3' vI:=by
      rw [← CF.out] at mQ ⊢;have hgs:=iC.size;rw [bR] at hgs;have hNN:=HX.out.nN;exact HX.out.CG HR.out hgB (by rw [HS2.out];omega) qW.out (by rw [HS2.out];exact Hy.out) mQ iC (by omega) (by omega) (ah _)
     generalize (W8.setCell ⟨tb+3,257,none⟩ (.slice p8 vI.length c8))=ni at oh ⊢;obtain ⟨N2,o9⟩:∃N2,Hid (W8.heap.size=N2):=⟨_,af rfl⟩
     rw [o9.out] at oh;clear JJ SE QJ mQ iC jC hO3 c1B f1B uu;obtain ⟨g,rfl,hgl,hat⟩:=gG Df oh.yX i af7;rw [Hgi.out] at hat;have hiq:(i:Int)<(st.ks.length:Int):=by omega
     have hBW:Below w.heap.size w ni:=by rw [dF.out];exact oh.fH
     have ht3:=oh.tab.lt
     have hcp:∀X,Below ni.heap.size ni X→X.cell? ⟨tb+3,258,none⟩=some (.slice pa a.ac.length c3'):=fun X h=>by
      rw [(oh.tab.below h ht3).cell?,show 258=256+2 from rfl,kK _ _ qW.out];rfl
     have hwz:w.heap.size≤ni.heap.size:=hBW.size;have ahL:=oh.sz;have aax:=af oh;clear oh;refine aH (S:=fun X=>Below ni.heap.size ni X) 9 rfl (by kernel_rfl) (au _ _).drew fun hS=> ?_;refine tk 0 88 (.pointer (some ⟨tb+3,258,none⟩)) hS ?_;refine tk 1 89 (.slice pa a.ac.length c3') hS ?_ rfl (qi fun W' h=>by have q0:=hcp W' h;go_simp);refine tk 2 90 (.func (.func ga) #[] ca) hS ?_;refine tk 3 91 (.slice (some ⟨g,0,none⟩) st.ks.length k2) hS ?_;refine tk 4 92 (.int .i64 i) hS ?_;refine tk 5 93 (.pointer (some ⟨g,i * 3,none⟩)) hS ?_ rfl yg;refine tk 6 94 (.agg (dz s)) hS ?_ rfl (aA (f:=oV) (l:=jG s) lQ (.tmp 93) rfl g (i * 3) rfl (fun W' h=>hat.below h hgl) rfl rfl);refine iZ 7 (fun K' hK=> ?_);refine El (d:=95) (g:=ga) (args:= #[.agg (dz s)]++ca) rfl rfl (by simp [execOp,resolve,invoke,Act.eval,HA.out.en,Deferred.ofValue]) ?_;refine (HA.out.ca _ (hBW.drew) s HSI.out).mono ?_;rintro e Wb ⟨rfl,hBb⟩;obtain ⟨z,Hz⟩:∃z,Hid (acc s=z):=⟨_,af rfl⟩
     rw [Hz.out];have hS2:=hS.trans (hBb.mono hS.size);refine ⟨_,rfl,hK.out _ _ hS2 fun _=> ?_⟩;simp only [sA,sB,sC];have Xf:=aax.out.under hS2;have ahz:ni.heap.size≤Wb.heap.size:=hS2.size;clear hK hBb hcp hat;refine iZ 8 (fun K' hK=> ?_);refine aej (d:=96) (v:= .slice (some ⟨Wb.heap.size,0,none⟩) 1 1) (w':=Wb.alloc (.cells #[.bool z] 4)) rfl rfl (by go_simp) ?_;have eP:Below ni.heap.size ni (Wb.alloc (.cells #[.bool z] 4)):=hS2.alloc hS2.size _;refine hK.out _ _ eP fun _=> ?_;clear hK;simp only [sA,sB,sC];refine aP (by kernel_rfl) ?_;simp only [List.drop];obtain ⟨Ef,yz⟩:∃l,Hid (a.ac++[z]=l):=⟨_,af rfl⟩
     have aeG:a.ac.length=i:=HO.out.al;have hA1:(a.ac.length+1) * 1≤140737488355328:=by omega
     have hA2:a.ac.length+1≤140737488355328:=by omega
     refine eG Qc (.tmp 89) (.tmp 96) rfl rfl OJ rfl Xf.acc z (.bool z) rfl 4 rfl hA1 hA2 Xf.sz Ef yz.out ?_;intro p9 c9 W9 DY G8 dB
     have acz:lZ w (W9.setCell ⟨tb+3,258,none⟩ (.slice p9 Ef.length c9)) tb N2 cell j st.ks (a.nx++[st.row]) Ef (some ⟨g,0,none⟩) k2 p8 c8 p9 c9 vI:=by
      rw [← yz.out] at DY ⊢;exact Xf.Dn qW.out DY dB
     have Ej:=(Xf.tab.alloc (.cells #[.bool z] 4)).grown dB (fun e=>by have:=(Xf.acc.lt _ e.symm).1;omega);have c9B:W9.cell? ⟨tb+3,258,none⟩=some (.slice pa a.ac.length c3'):=by rw [Ej.cell?,show 258=256+2 from rfl,kK _ _ qW.out];rfl
     have f9B:=Ej.frozen 258
     have HG1:Hid (vP cell bs start cB acc m K=(xF m cB acc bs (K - (i+1)) (i+1) ⟨st.ks,a.nx++[st.row],Ef⟩).map fun a=>⟨cell,bs.length,a.nx,a.ac⟩):=af (by
      rw [HG.out,Ri m cB acc bs K i a hlt hkK,Hs.out,HXE.out,← yz.out,← Hz.out];rfl)
     have HO1:Hid (XA.Ok ok m j (i+1) ⟨st.ks,a.nx++[st.row],Ef⟩):=af (by
      have h:=HO.out
      rw [← Hn.out] at h ⊢
      have h2:=Tj h HNX.out hlt (by rw [Hs.out];exact HXE.out) z
      rw [yz.out] at h2
      exact h2)
     clear DY G8 dB Ej Xf hS hS2 eP;go_wp2_with fail
     go_roundw
     case rel=>exact ⟨i+1,⟨st.ks,a.nx++[st.row],Ef⟩,some ⟨g,0,none⟩,k2,p8,c8,p9,c9,vI,N2,by go_num,rfl,HG1,HO1,acz⟩
     case measure=>simp [intOf];omega
  ·have hq:¬(i:Int)<(a.ks.length:Int):=by omega
   have HE:Hid (vP cell bs start cB acc m K=some ⟨cell,n,a.nx,a.ac⟩):=af (by rw [HG.out,adj _ _ _ _ _ _ _ (by omega),← Hn.out];rfl);have htab:=hX.tab;have hout:=hX.out;have HX:=af hX;have rV:us.length=a.nx.length:=l7 hX.rows;have Il:=af rV;clear hX rV;obtain ⟨L3,Dz⟩:∃l:List OC,Hid (l=bC ⟨cell,n,[],[]⟩ ⟨.slice pn us.length c2,rfl⟩ ⟨.slice pa a.ac.length c3',rfl⟩):=⟨_,af rfl⟩
   rw [← Dz.out] at htab;obtain ⟨C3,R6⟩:∃C,Hid (C=(L3.map oV).toArray):=⟨_,af rfl⟩
   have hL3:L3.length=259:=by rw [Dz.out];exact aW _ _ qW.out
   have hA3:bU Tryz.prog 166 L3.length:=by rw [hL3];exact jd
   have hLz:L3.length=(bC ⟨List.replicate 256 0,0,[],[]⟩ on on).length:=by rw [hL3,aW _ _ (by simp)]
   go_wp2_with (first
    | ((with_reducible refine zL htab.at hA3 R6.out ?_))
    | ((with_reducible refine aK (f:=oV) (l:=bC ⟨List.replicate 256 0,0,[],[]⟩ on on) (l':=L3) (t:=166) (C:=C3) hA3 (.tmp 12) (.tmp 99) ?_ ?_ (tb+2) ?_ R6.out ?_ hout hLz bF ?_);rfl;rfl;rfl;rfl;(intro W9 iO dB tY)))
   have dV:Below tb w W9:=HX.out.fH.grown dB (by have:=HX.out.sz;omega) (fun k e=>by injection e with e;omega);refine fJ (v:= .tuple #[.agg (L3.map oV).toArray, .bool true]) (bG (f:=oV) (l:=L3) (t:=13) rfl _ hA3 (tb+2) 0 rfl iO.at) rfl ?_;have hN9:=HX.out.next.kept dB (fun g hg e=>by have:=(HX.out.next.lt g hg).1;injection e with e;omega);have hA9:=HX.out.acc.kept dB (fun g hg e=>by have:=(HX.out.acc.lt g hg).1;injection e with e;omega);refine ⟨by rw [dF.out];exact dV,?_⟩;rw [HE.out];refine ⟨⟨.slice pn us.length c2,rfl⟩,⟨.slice pa a.ac.length c3',rfl⟩,by rw [Dz.out];rfl,fun X hX=>⟨?_,(Mem.Own.xC hA9 hX (by decide)).rd⟩,qW.out⟩;rcases (Mem.Own.xC hN9 hX (by decide)).rd with ⟨p0,e0,e1⟩ | ⟨b1,o1,c1,e1,e2,e3,e4⟩
   ·refine .inl ⟨p0,e0,?_⟩;have rV:=Il.out;rw [e1] at rV;exact vR.1 rV.symm
   ·refine .inr ⟨b1,o1,c1,by rw [← Il.out];exact e1,by rw [← Il.out];exact e2,fun k hk=> ?_,e4⟩;have C8:k<us.length:=by rw [Il.out];exact hk
    obtain ⟨g,u1,u2,u3,_,u6⟩:=Iz HX.out.rows k C8 hk;refine ⟨us[k].1,?_,?_⟩
    ·have h:=e3 k C8;rw [bM C8] at h;exact h
    ·rw [u1];exact (mJ (base:=0) (Mem.Row.xC (u2.grown dB (fun e=>by injection e with e;omega)) hX (by decide)) (Mg _) (by unfold maxLen;show a.nx[k].length≤_;omega)).rd
theorem uw {α:Type} {f:α→Value} {w:World} {l:List α} {P:Program} {ops:Array Oper} {rest:List Oper} {o:Oper} {a:Act} {Q:Exit→Act→World→Prop} {ty:TypeId} (T:bU P ty l.length) (x:Operand)
  (hw:Region.wanted o (yielded ops a.tmps)=true) (ho:o.op= .load ty x) (b off:Nat) (hx:a.eval x= .pointer (some ⟨b,off,none⟩)) (h:At f w b off l)
  {C:Array Value} (hC:C=(l.map f).toArray) (hk:wpList P ops Q rest (a.put o.dst (.agg C)) w):wpList P ops Q (o::rest) a w:=by
 subst hC;refine wpList_step fun K hK=> ?_;rw [aC hw];unfold Oper.wp execOp;simp only [ho,hx,Instr.loadAt,Instr.sureAddr,dR,iB,fT,je T h];exact hK _ _ hk
structure Tn (w:World) (b:Nat) (C:Array Value) (T:TB) (L:List OC):Prop where
 row:Row oV w b 166 L
 ce:C=(L.map oV).toArray
 at':kL w C T
 len:L.length=259
theorem Tn.below {w w':World} {b:Nat} {C:Array Value} {T:TB} {L:List OC} (h:Tn w b C T L) (hb:Below w.heap.size w w'):Tn w' b C T L:=⟨h.row.below hb h.row.lt,h.ce,h.at'.below hb,h.len⟩
theorem kL.list {w:World} {C:Array Value} {T:TB} (h:kL w C T):∃L:List OC,C=(L.map oV).toArray∧L.length=259:=by
 obtain ⟨vn,va,h1,_,_,h3⟩:=h;exact ⟨_,h1,aW _ _ h3⟩
theorem N9 {X:World} {b:Nat} {s:Sx} (h:Row oV X b 286 (jG s)):At oV X b 2 [ow (Go.Proofs.YtncnfncglacheaaGreatDoor.X s.2.2)]:=fun i hi=>by
 have:i=0:=by simpa using hi
 subst this;rw [h.cell?];rfl
theorem uq:bU Tryz.prog 284 1:=⟨fun _=>by kernel_rfl,fun _=>by kernel_rfl⟩
theorem mG (s:UInt64):jv s=(([ow (X s)]:List OC).map oV).toArray:=rfl
theorem ZM (w:World) (xb:Nat) (C:Array Value) (T:TB) (L:List OC) (hB:Tn w xb C T L) (hT:T.Ok) (h64:T.nx.length≤64) (s:Sx) (c:Nat) (hc:c<256):
  Calls Tryz.prog 231 #[.agg (dz s), .int .i64 (c:Int), .pointer (some ⟨xb,0,none⟩)] w fun e w'=>e= .returned (.agg (dz (vH T s c)))∧Below w.heap.size w w':=by
 have HT:=af hT;have hA3:bU Tryz.prog 166 L.length:=by rw [hB.len];exact jd
 have hs0:Row oV (w.alloc (.cells (dz s) 286)) w.heap.size 286 (jG s):=Row.new _ _ (congrArg (fun C=>Obj.cells C 286) (kT s));go_enter Tryz.func231,Tryz.ntmps231;go_upto_region 1 with (fail);have h0:=hs0.alloc (.cells #[.int .i64 0, .int .i64 0, .int .u64 0] 286);have s0:(w.alloc (.cells (dz s) 286)).heap.size=w.heap.size+1:=bR _ _
 have r0:Row oV ((w.alloc (.cells (dz s) 286)).alloc (.cells #[.int .i64 0, .int .i64 0, .int .u64 0] 286)) (w.heap.size+1) 286 (jG jX):=by
  have h:=Row.new (f:=oV) (w.alloc (.cells (dz s) 286)) (t:=286) (l:=jG jX) (.cells #[.int .i64 0, .int .i64 0, .int .u64 0] 286) rfl
  rwa [s0] at h
 have b0:Below w.heap.size w ((w.alloc (.cells (dz s) 286)).alloc (.cells #[.int .i64 0, .int .i64 0, .int .u64 0] 286)):=((au _ _).alloc (ah _) _).alloc (by rw [s0];omega) _;have HB:=af hB;clear hB hs0 s0;generalize ((w.alloc (.cells (dz s) 286)).alloc (.cells #[.int .i64 0, .int .i64 0, .int .u64 0] 286))=W at h0 r0 b0 ⊢;have hb1:=HB.out.below b0;have ha:=N9 h0;obtain ⟨tg,Hto⟩:∃o,Hid (T.targets s.2.2 c=o):=⟨_,af rfl⟩
 have hcl:=M6 W C T hb1.at' hT h64 s.2.2 c hc;rw [Hto.out] at hcl;have NS:=hb1.row.at;have hw0:=hb1.row.lt;have hbs:=b0.size;have qW:=af hcl;clear hcl
 go_upto_region 2 with (first
  | ((with_reducible refine aU (f:=oV) (l:=L) (C:=C) hA3 (.tmp 2) ?_ ?_ xb 0 ?_ NS HB.out.ce ?_);rfl;rfl;rfl)
  | ((with_reducible refine aU (f:=oV) (l:=[ow (X s.2.2)]) (C:=jv s.2.2) uq (.tmp 8) ?_ ?_ w.heap.size 2 ?_ ha (mG _) ?_);rfl;rfl;rfl)
  | (go_at_call 183;refine qW.out.mono ?_;rintro e W2 ⟨rfl,hB2⟩;(have hz2:Row oV (W2.alloc (.cells #[.int .u64 0] 284)) W2.heap.size 284 [ow (X 0)]:=Row.new _ _ rfl))
  | ((with_reducible refine aK (f:=oV) (l:=[ow (X 0)]) (l':=[ow (X tg)]) (t:=284) (C:=jv tg) uq (.tmp 6) (.tmp 11) ?_ ?_ W2.heap.size ?_ (mG _) ?_ hz2 rfl bF ?_);rfl;rfl;rfl;rfl;(intro W3 hs3 hG3 hz3)))
 have bW:Below W.heap.size W W3:=hB2.trans ((((au _ _).alloc (ah _) _).grown hG3 (by rw [bR];omega) (fun k e=>by injection e with e;omega)).mono hB2.size);have r3:=r0.below bW r0.lt;have b3:Below w.heap.size w W3:=b0.trans (bW.mono hbs);have hb3:=HB.out.below b3;have aeA:W3.cell? ⟨W2.heap.size,0,none⟩=some (.int .u64 (X tg)):=hs3.cell? 0;have ae3:=hs3.frozen 0;have hne:w.heap.size+1≠W2.heap.size:=by have:=r0.lt;have:=hB2.size;omega
 have hwk:w.heap.size≤W2.heap.size:=by have:=hB2.size;omega
 have aa2:=hs3.lt;clear qW hb1 ha h0 r0 b0 NS hw0 hbs hB2 hz2 hG3 hz3 bW;obtain ⟨kb,wN⟩:∃k,Hid (W2.heap.size=k):=⟨_,af rfl⟩
 rw [wN.out] at hs3 aeA ae3 hne hwk aa2 ⊢;clear wN;clear W2 W;obtain ⟨z,Hz⟩:∃z,Hid (T.some tg=z):=⟨_,af rfl⟩
 have hcl:=TF W3 C T hb3.at' hT h64 tg;rw [Hz.out] at hcl;have aeU:=hb3.row.at;have HcL:=af hcl;clear hcl;have HN:Hid (vH T s c=if z=true then (0,0,tg ||| 1) else (0,0,tg)):=af (by unfold vH;rw [Hto.out,Hz.out]);have hor:bits .or .u64 (X tg) 1=X (tg ||| 1):=I8 tg 1;obtain ⟨o1,Ho1⟩:∃o,Hid (tg ||| 1=o):=⟨_,af rfl⟩
 rw [Ho1.out] at hor HN
 go_upto_if 14 with (first
  | ((with_reducible refine aU (f:=oV) (l:=L) (C:=C) hA3 (.tmp 2) ?_ ?_ xb 0 ?_ aeU HB.out.ce ?_);rfl;rfl;rfl)
  | ((with_reducible refine aU (f:=oV) (l:=[ow (X tg)]) (C:=jv tg) uq (.tmp 6) ?_ ?_ kb 0 ?_ hs3.at (mG _) ?_);rfl;rfl;rfl)
  | (go_at_call 186;refine HcL.out.mono ?_;rintro e W4 ⟨rfl,hB4⟩))
 have hs4:=hs3.below hB4 aa2;have r4:=r3.below hB4 r3.lt;have b4:=b3.trans (hB4.mono b3.size);have c4:W4.cell? ⟨kb,0,none⟩=some (.int .u64 (X tg)):=hs4.cell? 0;have f4:=hs4.frozen 0;have hX:=fM tg;have hks:∀u:UInt64,Array.foldl (fun (cs:Array Value) (x:Value×Nat)=>cs.setIfInBounds (2+x.snd) x.fst) #[Value.int .i64 0,Value.int .i64 0,Value.int .u64 0] (jv u).zipIdx 0 1=dz (0,0,u):=fun u=>rfl;have hkz:∀u:UInt64,(jv u).size=1:=fun u=>rfl;clear hs3 aeA ae3 r3 b3 hb3 aeU hB4 HB aa2 HcL;clear W3;cases z with
 | false=>
  have o9:=HN.out;rw [aF (by decide)] at o9;have o9:=af o9;clear HN hor
  go_wp2_with (first
   | ((with_reducible refine aU (f:=oV) (l:=[ow (X tg)]) (C:=jv tg) uq (.tmp 6) ?_ ?_ kb 0 ?_ hs4.at (mG _) ?_);rfl;rfl;rfl)
   | ((with_reducible refine aK (f:=oV) (l:=jG jX) (l':=jG (0,0,tg)) (t:=286) (C:=dz (0,0,tg)) lQ (.tmp 5) (.tmp 20) ?_ ?_ (w.heap.size+1) ?_ (kT _) ?_ r4 rfl bF ?_);rfl;rfl;rfl;rfl;(intro W9 iO dB tY)))
  have dV:=b4.grown dB b4.size (fun k e=>by injection e with e;omega);refine fJ (aR (f:=oV) (l:=jG (0,0,tg)) rfl _ lQ (w.heap.size+1) 0 rfl iO.at) rfl ?_;exact ⟨by rw [o9.out];rfl,dV⟩
 | true=>
  have o9:=HN.out;rw [aC rfl] at o9;have o9:=af o9;clear HN;have hs5:Row oV (W4.setCell ⟨kb,0,none⟩ (.int .u64 (X o1))) kb 284 [ow (X o1)]:=hs4.set 0 (ow (X o1));have hg5:=aI W4 kb 0 (.int .u64 (X o1));have r5:=r4.grown hg5 (by simpa using hne);have b5:=b4.grown hg5 b4.size (fun k e=>by injection e with e;omega);clear hg5
  go_wp2_with (first
   | ((with_reducible refine aU (f:=oV) (l:=[ow (X o1)]) (C:=jv o1) uq (.tmp 6) ?_ ?_ kb 0 ?_ hs5.at (mG _) ?_);rfl;rfl;rfl)
   | ((with_reducible refine aK (f:=oV) (l:=jG jX) (l':=jG (0,0,o1)) (t:=286) (C:=dz (0,0,o1)) lQ (.tmp 5) (.tmp 20) ?_ ?_ (w.heap.size+1) ?_ (kT _) ?_ r5 rfl bF ?_);rfl;rfl;rfl;rfl;(intro W9 iO dB tY)))
  have dV:=b5.grown dB b5.size (fun k e=>by injection e with e;omega);refine fJ (aR (f:=oV) (l:=jG (0,0,o1)) rfl _ lQ (w.heap.size+1) 0 rfl iO.at) rfl ?_;exact ⟨by rw [o9.out];rfl,dV⟩
theorem acG (w:World) (xb:Nat) (C:Array Value) (T:TB) (L:List OC) (hB:Tn w xb C T L) (hT:T.Ok) (h64:T.nx.length≤64) (s:Sx):
  Calls Tryz.prog 232 #[.agg (dz s), .pointer (some ⟨xb,0,none⟩)] w fun e w'=>e= .returned (.bool (s.1==1 || T.some s.2.2))∧Below w.heap.size w w':=by
 have hA3:bU Tryz.prog 166 L.length:=by rw [hB.len];exact jd
 have hs0:Row oV (w.alloc (.cells (dz s) 286)) w.heap.size 286 (jG s):=Row.new _ _ (congrArg (fun C=>Obj.cells C 286) (kT s));have b0:Below w.heap.size w (w.alloc (.cells (dz s) 286)):=(au _ _).alloc (ah _) _;have hB1:=hB.below b0;go_enter Tryz.func232,Tryz.ntmps232;go_upto_region 1 with (fail);generalize (w.alloc (.cells (dz s) 286))=W at hs0 b0 hB1 ⊢;have ha:=N9 hs0;have c0:W.cell? ⟨w.heap.size,0,none⟩=some (.int .i64 (s.1:Int)):=hs0.cell? 0;have NS:=hB1.row.at;have hcl:=TF W C T hB1.at' hT h64 s.2.2;obtain ⟨z,Hz⟩:∃z,Hid (T.some s.2.2=z):=⟨_,af rfl⟩
 rw [Hz.out] at hcl;have qW:=af hcl;have HC:=af hB.ce;have HE:Hid ((s.1==1 || T.some s.2.2)=(s.1==1 || z)):=af (by rw [Hz.out]);obtain ⟨b,Hb⟩:∃b,Hid ((s.1==1 || T.some s.2.2)=b):=⟨_,af rfl⟩
 rw [Hb.out] at HE;clear hcl hB hB1 hs0;by_cases h1:s.1=1
 ·have hb:b=true:=by rw [HE.out,h1];rfl
  have hi:(s.1:Int)=1:=by omega
  subst hb;rw [hi] at c0;go_wp2_with fail;go_ret;exact ⟨by rw [Hb.out];rfl,b0⟩
 ·have hb:b=z:=by
   rw [HE.out,qcW.2 h1,Cz]
  have hi:¬(s.1:Int)=1:=by omega
  have hd:((s.1:Int)==1)=false:=qcW.2 hi;clear hi;subst hb
  go_wp2_with (first
   | ((with_reducible refine uw (f:=oV) (l:=L) (C:=C) hA3 (.tmp 1) ?_ ?_ xb 0 ?_ NS HC.out ?_);rfl;rfl;rfl)
   | ((with_reducible refine uw (f:=oV) (l:=[ow (X s.2.2)]) (C:=jv s.2.2) uq (.tmp 9) ?_ ?_ w.heap.size 2 ?_ ha (mG _) ?_);rfl;rfl;rfl))
  refine qW.out.mono ?_;rintro e W4 ⟨rfl,hB4⟩;go_wp2_with fail;go_ret;exact ⟨by rw [Hb.out];rfl,b0.trans (hB4.mono b0.size)⟩
theorem Ei (x:TB) (s:Sx) (c:Nat):(vH x s c).1=0∧(vH x s c).2.1=0:=by
 unfold vH;split<;>exact ⟨rfl,rfl⟩
theorem ac4 {x y:TB} (c:Nat) (hc:c∈(BK x y).bs):c<256:=(j5 x.cell y.cell 256 (ah _)).bb c hc
theorem BX {D:DF} (h:D.V):(lN D).Ok∧(lN D).nx.length≤64:=by
 have h1:=(jO h.toOk).canon;refine ⟨jO h1.1,?_⟩;show (bT D).canon.nx.length≤64;have h2:(bT D).nx.length=D.nx.length:=rfl;have h3:=h.n64;have h4:=h1.2;omega
theorem afo (w:World) (v:Value) (D:DF) (hv:dA w v D) (hV:D.V) (uP:iw w) (htl:1<w.heap.size):
  Calls Tryz.prog 192 #[v] w fun e w'=>∃v,e= .returned v∧fQ w' v D.star∧Below w.heap.size w w':=by
 have HV:=af hV;have HA:=af hv;have Sk:=af uP;obtain ⟨p1,k1,p2,k2,p3,k3,rfl⟩:=hv.parts;obtain ⟨n1,Hn1⟩:∃n,Hid (D.cls.length=n):=⟨_,af rfl⟩
 obtain ⟨n2,Hn2⟩:∃n,Hid (D.nx.length=n):=⟨_,af rfl⟩
 obtain ⟨n3,Hn3⟩:∃n,Hid (D.ac.length=n):=⟨_,af rfl⟩
 rw [Hn1.out,Hn2.out,Hn3.out] at HA ⊢;clear hv hV uP;go_enter Tryz.func192,Tryz.ntmps192;go_upto_region 1 with (fail);have hD0:Row oV ((w.alloc (.cells #[.slice p1 n1 k1, .slice p2 n2 k2, .slice p3 n3 k3] 79)).alloc (.cells #[.slice none 0 0, .slice none 0 0, .slice none 0 0] 79)) w.heap.size 79 (bL p1 n1 k1 p2 n2 k2 p3 n3 k3):=(Row.new w (.cells #[.slice p1 n1 k1, .slice p2 n2 k2, .slice p3 n3 k3] 79) rfl).alloc _
 have iJ:Row oV ((w.alloc (.cells #[.slice p1 n1 k1, .slice p2 n2 k2, .slice p3 n3 k3] 79)).alloc (.cells #[.slice none 0 0, .slice none 0 0, .slice none 0 0] 79)) (w.heap.size+1) 79 [on,on,on]:=by
  have h:=Row.new (f:=oV) (w.alloc (.cells #[.slice p1 n1 k1, .slice p2 n2 k2, .slice p3 n3 k3] 79)) (t:=79) (l:=[on,on,on]) _ rfl;rw [bR] at h;exact h
 have hB0:Below w.heap.size w ((w.alloc (.cells #[.slice p1 n1 k1, .slice p2 n2 k2, .slice p3 n3 k3] 79)).alloc (.cells #[.slice none 0 0, .slice none 0 0, .slice none 0 0] 79)):=((au _ _).alloc (ah _) _).alloc (by simp) _;generalize ((w.alloc (.cells #[.slice p1 n1 k1, .slice p2 n2 k2, .slice p3 n3 k3] 79)).alloc (.cells #[.slice none 0 0, .slice none 0 0, .slice none 0 0] 79))=W at hB0 hD0 iJ ⊢;have hval:=II W _ D (HA.out.below hB0) HV.out;have aaE:=af hval;have iL:=af htl;obtain ⟨tb,dF⟩:∃tb,Hid (w.heap.size=tb):=⟨_,af rfl⟩
 rw [dF.out] at hB0 hD0 iJ ⊢;clear hval htl
 go_upto_region 3 with (first
  | ((with_reducible refine aU (f:=oV) (l:=bL p1 n1 k1 p2 n2 k2 p3 n3 k3) (C:= #[.slice p1 n1 k1, .slice p2 n2 k2, .slice p3 n3 k3]) bQ (.tmp 1) ?_ ?_ tb 0 ?_ hD0.at ?_ ?_);rfl;rfl;rfl;rfl)
  | (go_at_call 69;refine aaE.out.mono ?_;rintro e Wb ⟨rfl,hBb⟩))
 have YT:=hD0.below hBb hD0.lt;have hRb:=iJ.below hBb iJ.lt;have hRl:=iJ.lt;have hBw:Below tb w Wb:=hB0.trans (hBb.mono (by omega));have Bi:Hid (iw Wb):=af (Sk.out.below (by rw [dF.out];exact hBw) iL.out);have htab:=Qf Wb _ D (HA.out.below (by rw [dF.out];exact hBw)) HV.out.mF Bi.out;have WE:=af htab;have yC:=af (jO HV.out.toOk);have ags:Hid (1<Wb.heap.size):=af (bO iL.out hBw.size);obtain ⟨x,Hx⟩:∃x,Hid (lN D=x):=⟨_,af rfl⟩
 have ZG:Hid (x.Ok∧x.nx.length≤64):=af (by rw [← Hx.out];exact BX HV.out);clear htab hD0 hB0 hBb iJ;go_wp2_with ((with_reducible refine aU (f:=oV) (l:=bL p1 n1 k1 p2 n2 k2 p3 n3 k3) (C:= #[.slice p1 n1 k1, .slice p2 n2 k2, .slice p3 n3 k3]) bQ (.tmp 1) ?_ ?_ tb 0 ?_ YT.at ?_ ?_);rfl;rfl;rfl;rfl);refine WE.out.mono ?_;rintro e Wc ⟨C,rfl,hC,jR⟩;go_wp2_with fail;refine (IV Wc C _ hC yC.out).mono ?_;rintro e Wd ⟨v,rfl,hv,hBd⟩;have Tq:=Qf Wd v (bT D).canon hv yC.out.canon.1.mF (Bi.out.below (jR.trans (hBd.mono jR.size)) ags.out);rw [show bT (bT D).canon=x from Hx.out] at Tq;have abH:=af Tq;have SN:Below Wb.heap.size Wb Wd:=jR.trans (hBd.mono jR.size);clear Tq hC hv jR hBd WE;go_wp2_with fail;refine abH.out.mono ?_;rintro e We ⟨C2,rfl,hC2,hBe⟩;obtain ⟨L2,hL2,hl2⟩:=hC2.list;have HL2:=af hL2;have hA3:bU Tryz.prog 166 L2.length:=by rw [hl2];exact jd
 have hLz:L2.length=(bC ⟨List.replicate 256 0,0,[],[]⟩ on on).length:=by rw [hl2,aW _ _ (by simp)]
 have Hl2:=af hl2;have L8:Row oV (We.alloc (.cells gu 166)) We.heap.size 166 (bC ⟨List.replicate 256 0,0,[],[]⟩ on on):=Row.new _ _ rfl;have HC2:=af hC2;clear hL2 hl2 hC2 abH
 go_upto_region 4 with (first
  | ((with_reducible refine gI (t:=166) gu uE ?_ ?_ We.heap.size ?_ ?_);rfl;rfl;rfl)
  | ((with_reducible refine aK (f:=oV) (l:=bC ⟨List.replicate 256 0,0,[],[]⟩ on on) (l':=L2) (t:=166) (C:=C2) hA3 (.tmp 4) (.tmp 17) ?_ ?_ We.heap.size ?_ HL2.out ?_ L8 hLz bF ?_);rfl;rfl;rfl;rfl;(intro Wf hsf hGf hzf)))
 have Hl:Below We.heap.size We (We.alloc (.cells gu 166)):=(au _ _).alloc (ah _) _;have hbF:Below We.heap.size We Wf:=Hl.grown hGf (by rw [bR];omega) (fun k e=>by injection e with e;omega);have dV:Below Wb.heap.size Wb Wf:=(SN.trans (hBe.mono SN.size)).trans (hbF.mono (aL SN.size hBe.size));have afV:kL Wf C2 x:=HC2.out.below hbF;have SL:Tn Wf We.heap.size C2 x L2:=⟨hsf,HL2.out,afV,Hl2.out⟩
 have hDf:=YT.below dV YT.lt;have OO:=hRb.below dV hRb.lt;have aeV:Below tb w Wf:=hBw.trans (dV.mono (by have:=hRb.lt;omega));have ahr:=hRb.lt;have hwe:Wb.heap.size≤We.heap.size:=aL SN.size hBe.size;have hwf:=hsf.lt;clear Hl hbF L8 hGf hzf SN hBe HC2 YT dV;obtain ⟨xb,Hxb⟩:∃b,Hid (We.heap.size=b):=⟨_,af rfl⟩
 rw [Hxb.out] at hsf SL hwe hwf ⊢;clear Hxb hLz;clear We Wd Wc;obtain ⟨J,HJ⟩:∃J,Hid (BK x x=J):=⟨_,af rfl⟩
 have Xh:∀c∈x.cell,c<65536:=fun c hc=>by have h1:=ZG.out.1.cb c hc;have h2:=ZG.out.1.mF;omega
 have hjo:=Vz Wf C2 C2 x x SL.at' SL.at' Xh Xh;rw [HJ.out] at hjo;have Hjo:=af hjo;have hJk:JS.Ok 256 J:=by rw [← HJ.out];exact j5 _ _ 256 (ah _)
 have aeI:1≤J.bs.length:=by rw [← HJ.out];exact xN _ _ 255
 have wP:=af hJk;have aar:=af aeI;have HTB:=af SL;clear Xh hjo hJk aeI SL;go_wp2_with ((with_reducible refine aU (f:=oV) (l:=L2) (C:=C2) hA3 (.tmp 4) ?_ ?_ xb 0 ?_ hsf.at HL2.out ?_);rfl;rfl;rfl);refine Hjo.out.mono ?_;rintro e Wg ⟨pj,cj,rfl,hOj,hBg⟩;have hAJ:bU Tryz.prog 152 J.cell.length:=by rw [wP.out.cl];exact PI
 have hzl:J.cell.length=(List.replicate 256 0).length:=by rw [wP.out.cl,Tw]
 have rc:=IK (w:=Wg) rfl
 go_upto_region 5 with (first
  | ((with_reducible refine gI (t:=152) nP Ct ?_ ?_ Wg.heap.size ?_ ?_);rfl;rfl;rfl)
  | ((with_reducible refine aK (f:=nV) (l:=List.replicate 256 0) (l':=J.cell) (t:=152) (C:=xE J.cell) hAJ (.tmp 5) (.tmp 22) ?_ ?_ Wg.heap.size ?_ rfl ?_ rc hzl uQ ?_);rfl;rfl;rfl;rfl;(intro Wh hsh hGh hzh)))
 have Hl:Below Wg.heap.size Wg (Wg.alloc (.cells nP 152)):=(au _ _).alloc (ah _) _;have Vl:Below Wg.heap.size Wg Wh:=Hl.grown hGh (by rw [bR];omega) (fun k e=>by injection e with e;omega);have MH:Below Wf.heap.size Wf Wh:=hBg.trans (Vl.mono hBg.size);have aa6:=HTB.out.below MH;have hRh:=OO.below MH OO.lt;have aeH:Below tb w Wh:=aeV.trans (MH.mono (by have:=OO.lt;omega));have hOh:=(hOj.below' Vl).rd;have agn:=hsh;have agQ:=hRh.lt;clear hsf hDf OO hRb hBw aeV hOj hBg rc hGh hzh Hl Vl MH;obtain ⟨cb,Qs⟩:∃b,Hid (Wg.heap.size=b):=⟨_,af rfl⟩
 rw [Qs.out] at hsh ⊢;clear Qs agn;clear Wg;have hBs:∀c∈J.bs,c<256:=fun c hc=>wP.out.bb c hc
 have hcb:∀c∈J.cell,c<J.bs.length:=fun c hc=>by
  have h1:=wP.out.cb c hc;have h2:=wP.out.bl;have h3:=aar.out;omega
 have AY:NxC Wh 231 #[.pointer (some ⟨xb,0,none⟩)] qN J.bs (vH x):=⟨fun args w=>by kernel_rfl,fun X hX s _ c hc=>ZM X xb C2 x L2 (aa6.below hX) ZG.out.1 ZG.out.2 s c (hBs c hc)⟩
 have hAc:AcC Wh 232 #[.pointer (some ⟨xb,0,none⟩)] qN (fun s=>s.1==1 || x.some s.2.2):=⟨fun args w=>by kernel_rfl,fun X hX s _=>acG X xb C2 x L2 (aa6.below hX) ZG.out.1 ZG.out.2 s⟩
 have hex:=MX Wh (xE J.cell) J.cell rfl wP.out.cl _ J.bs hOh wP.out.le qN (1,0,1) ⟨by decide,by decide⟩ (fun _ h=>h) (vH x) (fun s=>s.1==1 || x.some s.2.2) (fun s _ c _=>by obtain ⟨h1,h2⟩:=Ei x s c;exact ⟨by rw [h1];decide,by rw [h2];decide⟩) _ _ _ _ AY hAc 4096 4096 (by decide) (by decide) (fun l h=>h.le) (by decide);have hse:vP J.cell J.bs (1,0,1) (vH x) (fun s=>s.1==1 || x.some s.2.2) 4096 4096=Fz x:=by unfold Fz;rw [HJ.out]
 obtain ⟨S,zY⟩:∃S,Hid (Fz x=S):=⟨_,af rfl⟩
 rw [zY.out] at hse;rw [hse] at hex;have Hse:=af hse;have Hex:=af hex;have HBs:=af hBs;have Qs:=af hcb;clear AY hAc hex hse hBs hcb hOh aa6;have h1k:Array.foldl (fun (cs:Array Value) (x:Value×Nat)=>cs.setIfInBounds (2+x.snd) x.fst) #[Value.int .i64 1,Value.int .i64 0,Value.int .u64 0] #[Value.int .u64 1].zipIdx 0 1=dz (1,0,1):=rfl;go_wp2_with ((with_reducible refine aU (f:=nV) (l:=J.cell) (C:=xE J.cell) hAJ (.tmp 5) ?_ ?_ cb 0 ?_ hsh.at rfl ?_);rfl;rfl;rfl);refine Hex.out.mono ?_;rintro e Wi ⟨hBi,hE⟩;have hRi:=hRh.below hBi agQ;have ad7:Below tb w Wi:=aeH.trans (hBi.mono (by omega));have aex:=hRi.lt;have HSt:Hid (D.star=V4 S):=af (by unfold DF.star;rw [Hx.out,zY.out]);have L8:Row oV (Wi.alloc (.cells gu 166)) Wi.heap.size 166 (bC ⟨List.replicate 256 0,0,[],[]⟩ on on):=Row.new _ _ rfl;have Hl:Below Wi.heap.size Wi (Wi.alloc (.cells gu 166)):=(au _ _).alloc (ah _) _;have hs8:(Wi.alloc (.cells gu 166)).heap.size=Wi.heap.size+1:=bR _ _;clear Hex hBi hRh aeH hsh h1k;have V9:bU Tryz.prog 166 (bC ⟨List.replicate 256 0,0,[],[]⟩ on on).length:=by rw [aW _ _ (by simp)];exact jd
 cases UE:S with
 | none=>
  rw [UE] at hE;have HE2:Hid (D.star= .error 2):=af (by rw [HSt.out,UE];rfl);cases hE;clear UE
  go_wp2_with (first
   | ((with_reducible refine gI (t:=166) gu uE ?_ ?_ Wi.heap.size ?_ ?_);rfl;rfl;rfl)
   | ((with_reducible refine aK (f:=oV) (l:=bC ⟨List.replicate 256 0,0,[],[]⟩ on on) (l':=bC ⟨List.replicate 256 0,0,[],[]⟩ on on) (t:=166) (C:=gu) V9 (.tmp 8) (.tmp 33) ?_ ?_ Wi.heap.size ?_ rfl ?_ L8 rfl bF ?_);rfl;rfl;rfl;rfl;(intro Wj hsj hGj hzj);(have Tm:Below Wi.heap.size Wi Wj:=Hl.grown hGj (by omega) (fun k e=>by injection e with e;omega));(have hRj:=hRi.below Tm aex))
   | ((with_reducible refine aK (f:=oV) (l:=[on,on,on]) (l':=[on,on,on]) (t:=79) (C:= #[.slice none 0 0, .slice none 0 0, .slice none 0 0]) bQ (.tmp 2) (.tmp 37) ?_ ?_ (tb+1) ?_ ?_ ?_ hRj ?_ bF ?_);rfl;rfl;rfl;rfl;rfl;rfl;(intro W9 iO dB tY)))
  have dV:Below tb w W9:=(ad7.trans (Tm.mono (by omega))).grown dB (by have:=hRj.lt;omega) (fun k e=>by injection e with e;omega);refine fJ (v:= .tuple #[.agg #[.slice none 0 0, .slice none 0 0, .slice none 0 0], .int .i64 2]) (bG (f:=oV) (l:=[on,on,on]) (t:=3) rfl _ bQ (tb+1) 0 rfl iO.at) rfl ?_;exact ⟨_,rfl,by rw [HE2.out];rfl,by rw [dF.out];exact dV⟩
 | some T=>
  rw [UE] at hE;have HE2:Hid (D.star=lim T):=af (by rw [HSt.out,UE];rfl)
  have uR:Hid T.Ok:=af (by
   have h:=Hse.out.trans UE
   exact Dv (ok:=qN) (K:=4096) ⟨by decide,by decide⟩ (by decide) (fun s _ c _=>by obtain ⟨h1,h2⟩:=Ei x s c;exact ⟨by rw [h1];decide,by rw [h2];decide⟩) (fun l h=>h.le) (by decide) wP.out.cl wP.out.le Qs.out h)
  obtain ⟨C5,rfl,hC5⟩:∃C,e= .returned (.tuple #[.agg C, .bool true])∧kL Wi C T:=by
   obtain ⟨tn,ta,h1,h2,h3⟩:=hE;exact ⟨_,h1,tn,ta,rfl,(h2 _ (dQ.refl _)).1,(h2 _ (dQ.refl _)).2,h3⟩
  obtain ⟨L5,hL5,hl5⟩:=hC5.list;have HL5:=af hL5;have Uh:bU Tryz.prog 166 L5.length:=by rw [hl5];exact jd
  have afF:L5.length=(bC ⟨List.replicate 256 0,0,[],[]⟩ on on).length:=by rw [hl5,aW _ _ (by simp)]
  have HC5:=af hC5;clear hL5 hl5 hC5 UE
  go_wp2_with (first
   | ((with_reducible refine gI (t:=166) gu uE ?_ ?_ Wi.heap.size ?_ ?_);rfl;rfl;rfl)
   | ((with_reducible refine aK (f:=oV) (l:=bC ⟨List.replicate 256 0,0,[],[]⟩ on on) (l':=L5) (t:=166) (C:=C5) Uh (.tmp 8) (.tmp 33) ?_ ?_ Wi.heap.size ?_ HL5.out ?_ L8 afF bF ?_);rfl;rfl;rfl;rfl;(intro Wj hsj hGj hzj);(have Tm:Below Wi.heap.size Wi Wj:=Hl.grown hGj (by omega) (fun k e=>by injection e with e;omega));(have hRj:=hRi.below Tm aex))
   | ((with_reducible refine aU (f:=oV) (l:=L5) (C:=C5) Uh (.tmp 8) ?_ ?_ Wi.heap.size 0 ?_ hsj.at HL5.out ?_);rfl;rfl;rfl))
  refine (aes Wj C5 T (HC5.out.below Tm) uR.out).mono ?_;rintro e Wk ⟨v2,rfl,hv2,wG⟩;have af2:=hRj.lt;have hRk:=hRj.below wG af2;have KJ:Below tb w Wk:=(ad7.trans (Tm.mono (by omega))).trans (wG.mono (by omega));obtain ⟨R,K6⟩:∃R,Hid (lim T=R):=⟨_,af rfl⟩
  rw [K6.out] at hv2;have HE3:Hid (D.star=R):=af (HE2.out.trans K6.out);clear Tm hsj hGj hzj wG hRj L8 Hl;cases hds:R with
  | error n=>
   rw [hds] at hv2;have TL:Hid (D.star= .error n):=af (HE3.out.trans hds);cases hv2;clear hds;go_wp2_with ((with_reducible refine aK (f:=oV) (l:=[on,on,on]) (l':=[on,on,on]) (t:=79) (C:= #[.slice none 0 0, .slice none 0 0, .slice none 0 0]) bQ (.tmp 2) (.tmp 40) ?_ ?_ (tb+1) ?_ ?_ ?_ hRk ?_ bF ?_);rfl;rfl;rfl;rfl;rfl;rfl;(intro W9 iO dB tY));have dV:Below tb w W9:=KJ.grown dB (by have:=hRk.lt;omega) (fun k e=>by injection e with e;omega);refine fJ (v:= .tuple #[.agg #[.slice none 0 0, .slice none 0 0, .slice none 0 0], .int .i64 (n:Int)]) (bG (f:=oV) (l:=[on,on,on]) (t:=3) rfl _ bQ (tb+1) 0 rfl iO.at) rfl ?_;exact ⟨_,rfl,by rw [TL.out];rfl,by rw [dF.out];exact dV⟩
  | ok E=>
   rw [hds] at hv2;have TL:Hid (D.star= .ok E):=af (HE3.out.trans hds)
   have HEO:Hid E.Ok:=af (by
    have h:lim T= .ok E:=K6.out.trans hds
    unfold lim at h
    split at h
    ·injection h with h;rw [← h];exact uR.out.canon.1
    ·cases h)
   obtain ⟨u,rfl,hu⟩:=hv2;obtain ⟨q1,j1,q2,j2,q3,j3,rfl⟩:=hu.parts;have HU:=af hu;obtain ⟨m1,Hm1⟩:∃n,Hid (E.cls.length=n):=⟨_,af rfl⟩
   obtain ⟨m2,Hm2⟩:∃n,Hid (E.nx.length=n):=⟨_,af rfl⟩
   obtain ⟨m3,Hm3⟩:∃n,Hid (E.ac.length=n):=⟨_,af rfl⟩
   rw [Hm1.out,Hm2.out,Hm3.out] at HU ⊢;clear hds hu;go_wp2_with ((with_reducible refine aK (f:=oV) (l:=[on,on,on]) (l':=bL q1 m1 j1 q2 m2 j2 q3 m3 j3) (t:=79) (C:= #[.slice q1 m1 j1, .slice q2 m2 j2, .slice q3 m3 j3]) bQ (.tmp 2) (.tmp 40) ?_ ?_ (tb+1) ?_ ?_ ?_ hRk ?_ bF ?_);rfl;rfl;rfl;rfl;rfl;rfl;(intro W9 iO dB tY));have dV:Below tb w W9:=KJ.grown dB (by have:=hRk.lt;omega) (fun k e=>by injection e with e;omega);refine fJ (v:= .tuple #[.agg #[.slice q1 m1 j1, .slice q2 m2 j2, .slice q3 m3 j3], .int .i64 0]) (bG (f:=oV) (l:=bL q1 m1 j1 q2 m2 j2 q3 m3 j3) (t:=3) rfl _ bQ (tb+1) 0 rfl iO.at) rfl ?_;refine ⟨_,rfl,?_,by rw [dF.out];exact dV⟩;rw [TL.out];exact ⟨_,rfl,HU.out.avoid HEO.out hRk dB⟩
structure xY (w:World) (b:Nat) (T:TB) (vn va:OC):Prop where
 row:Row oV w b 166 (bC T vn va)
 h1:vU w vn.1 T.nx
 h2:Rd Value.bool w va.1 T.ac
 cl:T.cell.length=256
theorem xY.below {w w':World} {b:Nat} {T:TB} {vn va:OC} (h:xY w b T vn va) (hb:Below w.heap.size w w'):xY w' b T vn va:=⟨h.row.below hb h.row.lt,vU.below' h.h1 hb,h.h2.below hb,h.cl⟩
theorem xY.tbB {w:World} {b:Nat} {T:TB} {vn va:OC} (h:xY w b T vn va):Tn w b ((bC T vn va).map oV).toArray T (bC T vn va):=⟨h.row,rfl,⟨vn,va,rfl,h.h1,h.h2,h.cl⟩,aW _ _ h.cl⟩
theorem xY.ac {w:World} {b:Nat} {T:TB} {vn va:OC} (h:xY w b T vn va):w.cell? ⟨b,258,none⟩=some va.1:=by
 rw [h.row.cell?,show 258=256+2 from rfl,kK _ _ h.cl];rfl
theorem xY.nx {w:World} {b:Nat} {T:TB} {vn va:OC} (h:xY w b T vn va):w.cell? ⟨b,257,none⟩=some vn.1:=by
 rw [h.row.cell?,show 257=256+1 from rfl,kK _ _ h.cl];rfl
theorem xY.c {w:World} {b:Nat} {T:TB} {vn va:OC} (h:xY w b T vn va) (i:Nat) (hi:i<256):w.cell? ⟨b,i,none⟩=some (.int .i64 (T.cell.getD i 0:Nat)):=by
 rw [h.row.cell?,zG vn va (by rw [h.cl];exact hi)];rfl
theorem Nf (w:World) (xb:Nat) (x:TB) (vn va:OC) (hQ:xY w xb x vn va) (hx:x.Ok) (s:Sx) (hs:s.1<x.nx.length):
  Calls Tryz.prog 181 #[.agg (dz s), .pointer (some ⟨xb,0,none⟩)] w fun e w'=>e= .returned (.agg (dz (uF x s)))∧Below w.heap.size w w':=by
 have hs0:Row oV (w.alloc (.cells (dz s) 286)) w.heap.size 286 (jG s):=Row.new _ _ (congrArg (fun C=>Obj.cells C 286) (kT s));go_enter Tryz.func181,Tryz.ntmps181;go_upto_region 1 with (fail);have h0:=hs0.alloc (.cells #[.int .i64 0, .int .i64 0, .int .u64 0] 286);have s0:(w.alloc (.cells (dz s) 286)).heap.size=w.heap.size+1:=bR _ _
 have r0:Row oV ((w.alloc (.cells (dz s) 286)).alloc (.cells #[.int .i64 0, .int .i64 0, .int .u64 0] 286)) (w.heap.size+1) 286 (jG jX):=by
  have h:=Row.new (f:=oV) (w.alloc (.cells (dz s) 286)) (t:=286) (l:=jG jX) (.cells #[.int .i64 0, .int .i64 0, .int .u64 0] 286) rfl
  rwa [s0] at h
 have b0:Below w.heap.size w ((w.alloc (.cells (dz s) 286)).alloc (.cells #[.int .i64 0, .int .i64 0, .int .u64 0] 286)):=((au _ _).alloc (ah _) _).alloc (by rw [s0];omega) _;clear hs0 s0;generalize ((w.alloc (.cells (dz s) 286)).alloc (.cells #[.int .i64 0, .int .i64 0, .int .u64 0] 286))=W at h0 r0 b0 ⊢;have hq:=hQ.below b0;obtain ⟨va,hva⟩:=va;have ca:=hq.ac;obtain ⟨pa,ka,rfl⟩:=hQ.h2.slice;have hal:x.ac.length=x.nx.length:=hx.ac;obtain ⟨n,Hn⟩:∃n,Hid (x.ac.length=n):=⟨_,af rfl⟩
 have HA:=af hQ.h2;have hsn:s.1<n:=by rw [← Hn.out,hal];exact hs
 rw [Hn.out] at ca HA;obtain ⟨ab,ao,rfl,hca⟩:=uI HA.out s.1 hsn;have YK:=hca W b0;have hsi:(s.1:Int)<(n:Int):=by omega
 obtain ⟨z,Hz⟩:∃z,Hid (x.ac.getD s.1 false=z):=⟨_,af rfl⟩
 rw [Hz.out] at YK;have HE:Hid (uF x s=if z=true then (s.1,s.2.1,s.2.2 ||| 1) else s):=af (by unfold uF;rw [Hz.out]);have cs0:W.cell? ⟨w.heap.size,0,none⟩=some (.int .i64 (s.1:Int)):=h0.cell? 0;have cs2:W.cell? ⟨w.heap.size,2,none⟩=some (.int .u64 (X s.2.2)):=h0.cell? 2;have fs2:=h0.frozen 2;have hX:=fM s.2.2;have hor:bits .or .u64 (X s.2.2) 1=X (s.2.2 ||| 1):=I8 s.2.2 1;have hrl:=r0.lt;clear hca hq hQ hs hal hsn;cases z with
 | false=>
  have o9:=HE.out;rw [aF (by decide)] at o9;have o9:=af o9;clear HE hor
  go_wp2_with (first
   | ((with_reducible refine zL h0.at lQ (kT _) ?_))
   | ((with_reducible refine aK (f:=oV) (l:=jG jX) (l':=jG s) (t:=286) (C:=dz s) lQ (.tmp 3) (.tmp 16) ?_ ?_ (w.heap.size+1) ?_ (kT _) ?_ r0 rfl bF ?_);rfl;rfl;rfl;rfl;(intro W9 iO dB tY)))
  have dV:=b0.grown dB b0.size (fun k e=>by injection e with e;omega);refine fJ (aR (f:=oV) (l:=jG s) rfl _ lQ (w.heap.size+1) 0 rfl iO.at) rfl ?_;exact ⟨rfl,dV⟩
 | true=>
  have o9:=HE.out;rw [aC rfl] at o9;have o9:=af o9;clear HE;obtain ⟨o1,Ho1⟩:∃o,Hid (s.2.2 ||| 1=o):=⟨_,af rfl⟩
  rw [Ho1.out] at hor o9;have hs5:Row oV (W.setCell ⟨w.heap.size,2,none⟩ (.int .u64 (X o1))) w.heap.size 286 (jG (s.1,s.2.1,o1)):=h0.set 2 (ow (X o1));have hg5:=aI W w.heap.size 2 (.int .u64 (X o1));have r5:=r0.grown hg5 (by simp);have b5:=b0.grown hg5 b0.size (fun k e=>by injection e with e;omega);clear hg5
  go_wp2_with (first
   | ((with_reducible refine zL hs5.at lQ (kT _) ?_))
   | ((with_reducible refine aK (f:=oV) (l:=jG jX) (l':=jG (s.1,s.2.1,o1)) (t:=286) (C:=dz (s.1,s.2.1,o1)) lQ (.tmp 3) (.tmp 16) ?_ ?_ (w.heap.size+1) ?_ (kT _) ?_ r5 rfl bF ?_);rfl;rfl;rfl;rfl;(intro W9 iO dB tY)))
  have dV:=b5.grown dB b5.size (fun k e=>by injection e with e;omega);refine fJ (aR (f:=oV) (l:=jG (s.1,s.2.1,o1)) rfl _ lQ (w.heap.size+1) 0 rfl iO.at) rfl ?_;exact ⟨by rw [Ho1.out];rfl,dV⟩
theorem adK (w:World) (yb:Nat) (y:TB) (vn va:OC) (hQ:xY w yb y vn va) (hy:y.Ok) (h64:y.nx.length≤64) (s:Sx):
  Calls Tryz.prog 185 #[.agg (dz s), .pointer (some ⟨yb,0,none⟩)] w fun e w'=>e= .returned (.bool (y.some s.2.2))∧Below w.heap.size w w':=by
 have hB:=hQ.tbB;generalize bC y vn va=L at hB;obtain ⟨C,HC⟩:∃C,Hid (C=(L.map oV).toArray):=⟨_,af rfl⟩
 rw [← HC.out] at hB;have hA3:bU Tryz.prog 166 L.length:=by rw [hB.len];exact jd
 have hs0:Row oV (w.alloc (.cells (dz s) 286)) w.heap.size 286 (jG s):=Row.new _ _ (congrArg (fun C=>Obj.cells C 286) (kT s));have b0:Below w.heap.size w (w.alloc (.cells (dz s) 286)):=(au _ _).alloc (ah _) _;have hB1:=hB.below b0;go_enter Tryz.func185,Tryz.ntmps185;go_upto_region 1 with (fail);generalize (w.alloc (.cells (dz s) 286))=W at hs0 b0 hB1 ⊢;have ha:=N9 hs0;have NS:=hB1.row.at;have hcl:=TF W C y hB1.at' hy h64 s.2.2;obtain ⟨z,Hz⟩:∃z,Hid (y.some s.2.2=z):=⟨_,af rfl⟩
 rw [Hz.out] at hcl;have qW:=af hcl;clear hcl hB hB1 hs0 hQ
 go_wp2_with (first
  | ((with_reducible refine zL NS hA3 HC.out ?_))
  | ((with_reducible refine zL ha uq (mG _) ?_)))
 refine qW.out.mono ?_;rintro e W4 ⟨rfl,hB4⟩;go_wp2_with fail;go_ret;exact ⟨by rw [Hz.out];rfl,b0.trans (hB4.mono b0.size)⟩
theorem abN (w:World) (eb xb yb:Nat) (x y:TB) (vn va un ua:OC) (hE:∀X,Below w.heap.size w X→X.cell? ⟨eb,0,none⟩=some (.func (.func 181) #[] #[.pointer (some ⟨xb,0,none⟩)])) (hQ:xY w xb x vn va) (hP:xY w yb y un ua) (hx:x.Ok) (hy:y.Ok) (h64:y.nx.length≤64) (s:Sx) (hs:s.1<x.nx.length) (c:Nat) (hc:c<256):
  Calls Tryz.prog 182 #[.agg (dz s), .int .i64 (c:Int), .pointer (some ⟨eb,0,none⟩), .pointer (some ⟨xb,0,none⟩), .pointer (some ⟨yb,0,none⟩)] w fun e w'=>e= .returned (.agg (dz (vN x y s c)))∧Below w.heap.size w w':=by
 have hs0:Row oV (w.alloc (.cells (dz s) 286)) w.heap.size 286 (jG s):=Row.new _ _ (congrArg (fun C=>Obj.cells C 286) (kT s));go_enter Tryz.func182,Tryz.ntmps182;go_upto_region 1 with (fail);have h0:=hs0.alloc (.cells #[.int .i64 0, .int .i64 0, .int .u64 0] 286);have s0:(w.alloc (.cells (dz s) 286)).heap.size=w.heap.size+1:=bR _ _
 have r0:Row oV ((w.alloc (.cells (dz s) 286)).alloc (.cells #[.int .i64 0, .int .i64 0, .int .u64 0] 286)) (w.heap.size+1) 286 (jG jX):=by
  have h:=Row.new (f:=oV) (w.alloc (.cells (dz s) 286)) (t:=286) (l:=jG jX) (.cells #[.int .i64 0, .int .i64 0, .int .u64 0] 286) rfl
  rwa [s0] at h
 have b0:Below w.heap.size w ((w.alloc (.cells (dz s) 286)).alloc (.cells #[.int .i64 0, .int .i64 0, .int .u64 0] 286)):=((au _ _).alloc (ah _) _).alloc (by rw [s0];omega) _;clear hs0 s0;generalize ((w.alloc (.cells (dz s) 286)).alloc (.cells #[.int .i64 0, .int .i64 0, .int .u64 0] 286))=W at h0 r0 b0 ⊢;have hq:=hQ.below b0;have hp:=hP.below b0;have hBW:Hid (∀X,Below W.heap.size W X→Below w.heap.size w X):=af fun X h=>b0.trans (h.mono b0.size);have hW0:=h0.lt;have k0:∀X,Below W.heap.size W X→X.cell? ⟨eb,0,none⟩=some (.func (.func 181) #[] #[.pointer (some ⟨xb,0,none⟩)]):=fun X h=>hE X (hBW.out X h);have k1:∀X,Below W.heap.size W X→X.cell? ⟨xb,257,none⟩=some vn.1:=fun X h=>(hq.below h).nx;have k2:∀X,Below W.heap.size W X→X.cell? ⟨w.heap.size,0,none⟩=some (.int .i64 (s.1:Int)):=fun X h=>by rw [(h0.below h hW0).cell?];rfl
 have k3:∀X,Below W.heap.size W X→X.cell? ⟨xb,c,none⟩=some (.int .i64 (x.cell.getD c 0:Nat)):=fun X h=>(hq.below h).c c hc;obtain ⟨vn,jL⟩:=vn;obtain ⟨pn,kn,rfl⟩:=hQ.h1.slice;have hsl:s.1<x.nx.length:=hs;obtain ⟨n,Hn⟩:∃n,Hid (x.nx.length=n):=⟨_,af rfl⟩
 have HN:=af hQ.h1;rw [Hn.out] at HN k1 hs;obtain ⟨nb,no,rq,rd,rfl, -,hnb,hcr,hrw⟩:=sF HN.out s.1 (by rw [Hn.out];exact hs);have k4:∀X,Below W.heap.size W X→X.cell? ⟨nb,no+s.1,none⟩=some (.slice rq (x.nx.getD s.1 []).length rd):=fun X h=>((hBW.out X h).cell (p:=⟨nb,no+s.1,none⟩) hnb).trans hcr;have hrl2:(x.nx.getD s.1 []).length=x.cells:=hx.rw _ (aO _ _ _ hsl);have hcT:x.cell.getD c 0<x.cells:=kZ hx c hc;have uR:Hid (x.to s.1 c=(x.nx.getD s.1 []).getD (x.cell.getD c 0) 0):=af rfl;obtain ⟨row,xU⟩:∃r,Hid (x.nx.getD s.1 []=r):=⟨_,af rfl⟩
 obtain ⟨k,Hk⟩:∃c',Hid (x.cell.getD c 0=c'):=⟨_,af rfl⟩
 rw [xU.out] at hrw hrl2 k4 uR;rw [Hk.out] at k3 hcT uR;obtain ⟨rn,Mm⟩:∃r,Hid (row.length=r):=⟨_,af rfl⟩
 have hcl:k<rn:=by rw [← Mm.out];omega
 rw [Mm.out] at k4 hrw;obtain ⟨Xv,ZA,rfl,hct⟩:=iT hrw k hcl;have k5:∀X,Below W.heap.size W X→X.cell? ⟨Xv,ZA+k,none⟩=some (.int .i64 (row.getD k 0:Nat)):=fun X h=>hct X (hBW.out X h);obtain ⟨t,Ht⟩:∃t,Hid (row.getD k 0=t):=⟨_,af rfl⟩
 rw [Ht.out] at k5 uR;have hsi:(s.1:Int)<(n:Int):=by omega
 have hki:(k:Int)<(rn:Int):=by omega
 have hci:(c:Int)<256:=by omega
 have hpB:=hp.tbB;have HP:=af hp;have HQ:=af hq
 have HTN:Hid (t<x.nx.length):=af (by
  rw [← Ht.out,← xU.out]
  exact uK hx.rb s.1 _ (aO _ _ _ (by rw [xU.out,Mm.out];exact hcl)))
 obtain ⟨L,HL⟩:∃L,Hid (bC y un ua=L):=⟨_,af rfl⟩
 rw [HL.out] at hpB;obtain ⟨C,HC⟩:∃C,Hid (C=(L.map oV).toArray):=⟨_,af rfl⟩
 rw [← HC.out] at hpB;have hA3:bU Tryz.prog 166 L.length:=by rw [hpB.len];exact jd
 have HPB:=af hpB;clear hcr hrw hct hpB hp hq hQ hP hnb;refine aH (S:=fun X=>Below W.heap.size W X) 20 rfl (by kernel_rfl) (au _ _).drew fun hS=> ?_;refine tk 0 8 (.func (.func 181) #[] #[.pointer (some ⟨xb,0,none⟩)]) hS ?_ rfl (qi fun W' h=>by have q0:=k0 W' h;go_simp);refine tk 1 9 (.pointer (some ⟨xb,257,none⟩)) hS ?_;refine tk 2 10 (.slice (some ⟨nb,no,none⟩) n kn) hS ?_ rfl (qi fun W' h=>by have q0:=k1 W' h;go_simp);refine tk 3 11 (.pointer (some ⟨w.heap.size,0,none⟩)) hS ?_;refine tk 4 12 (.int .i64 (s.1:Int)) hS ?_ rfl (qi fun W' h=>by have q0:=k2 W' h;go_simp);refine tk 5 13 (.pointer (some ⟨nb,no+s.1,none⟩)) hS ?_ rfl yg;refine tk 6 14 (.slice (some ⟨Xv,ZA,none⟩) rn rd) hS ?_ rfl (qi fun W' h=>by have q0:=k4 W' h;go_simp);refine tk 7 15 (.int .i64 (c:Int)) hS ?_;refine tk 8 16 (.pointer (some ⟨xb,0,none⟩)) hS ?_;refine tk 9 17 (.pointer (some ⟨xb,c,none⟩)) hS ?_ rfl yg;refine tk 10 18 (.int .i64 (k:Int)) hS ?_ rfl (qi fun W' h=>by have q0:=k3 W' h;go_simp);refine tk 11 19 (.pointer (some ⟨Xv,ZA+k,none⟩)) hS ?_ rfl yg;refine tk 12 20 (.int .i64 (t:Int)) hS ?_ rfl (qi fun W' h=>by have q0:=k5 W' h;go_simp);refine tk 13 21 (.agg C) hS ?_ rfl (aA (f:=oV) (l:=L) hA3 (.tmp 4) rfl yb 0 rfl (fun W' h=>(HPB.out.below h).row.at) HC.out rfl);refine tk 14 22 (.pointer (some ⟨w.heap.size,2,none⟩)) hS ?_;refine tk 15 23 (.agg (jv s.2.2)) hS ?_ rfl (aA (f:=oV) (l:=[ow (X s.2.2)]) uq (.tmp 22) rfl w.heap.size 2 rfl (fun W' h=>N9 (h0.below h hW0)) (mG _) rfl);refine tk 16 24 (.int .i64 (c:Int)) hS ?_;refine iZ 17 (fun K' hK=> ?_);refine cD 25 183 #[.agg C, .agg (jv s.2.2), .int .i64 (c:Int)] ?_;refine (M6 W.drew C y (HPB.out.below hS).at' hy h64 s.2.2 c hc).mono ?_;rintro e Wa ⟨rfl,hBa⟩;obtain ⟨o,Ho⟩:∃o,Hid (y.targets s.2.2 c=o):=⟨_,af rfl⟩
 rw [Ho.out];have jy:=hS.trans (hBa.mono hS.size);refine ⟨_,rfl,hK.out _ _ jy fun _=> ?_⟩;clear hK hBa hS;have hS:=jy;simp only [sA,sB,sC];refine tk 18 26 (.agg (dz (t,0,o))) hS ?_ rfl (yo fun w=>by kernel_rfl);refine iZ 19 (fun K' hK=> ?_);refine cD 27 181 #[.agg (dz (t,0,o)), .pointer (some ⟨xb,0,none⟩)] ?_;refine (Nf Wa xb x _ va (HQ.out.below hS) hx (t,0,o) HTN.out).mono ?_;rintro e Wb ⟨rfl,hBb⟩;have hSb:=hS.trans (hBb.mono hS.size);refine ⟨_,rfl,hK.out _ _ hSb fun _=> ?_⟩;have HE:Hid (vN x y s c=uF x (t,0,o)):=af (by unfold vN;rw [uR.out,Ho.out]);obtain ⟨u,Hu⟩:∃u,Hid (uF x (t,0,o)=u):=⟨_,af rfl⟩
 rw [Hu.out] at HE ⊢;clear hK hBb hS jy k0 k1 k2 k3 k4 k5 hE;simp only [sA,sB,sC];refine aP (by kernel_rfl) ?_;simp only [List.drop];have hr2:=r0.below hSb r0.lt;have adX:=hBW.out Wb hSb;go_wp2_with ((with_reducible refine aK (f:=oV) (l:=jG jX) (l':=jG u) (t:=286) (C:=dz u) lQ (.tmp 7) (.tmp 27) ?_ ?_ (w.heap.size+1) ?_ (kT _) ?_ hr2 rfl bF ?_);rfl;rfl;rfl;rfl;(intro W9 iO dB tY));have dV:=adX.grown dB adX.size (fun k e=>by injection e with e;omega);refine fJ (aR (f:=oV) (l:=jG u) rfl _ lQ (w.heap.size+1) 0 rfl iO.at) rfl ?_;exact ⟨by rw [HE.out];rfl,dV⟩
end
section
open Go Go.RowKit Mem
theorem zQ.tbS {w:World} {vc:Value} {vn va:OC} {D:DF} (h:zQ w (.agg #[vc,vn.1,va.1]) D):Bv w vn va (bT D):=fun X hX=>by
 obtain ⟨vc',vn',va',heq,h1,h2,h3⟩:=h X hX;simp only [Value.agg.injEq,TU,Hg,G5] at heq;obtain ⟨rfl,rfl,rfl⟩:=heq;exact ⟨h2,h3⟩
theorem dA.ocs {w:World} {v:Value} {D:DF} (h:dA w v D):∃(vc vn va:OC),v= .agg #[vc.1,vn.1,va.1]:=by
 obtain ⟨p1,k1,p2,k2,p3,k3,rfl⟩:=h.parts;exact ⟨⟨.slice p1 D.cls.length k1,rfl⟩,⟨.slice p2 D.nx.length k2,rfl⟩,⟨.slice p3 D.ac.length k3,rfl⟩,rfl⟩
theorem Bv.q {w:World} {b:Nat} {vn va:OC} {T:TB} (h:Bv w vn va T) (hr:Row oV w b 166 (bC T vn va)) (hc:T.cell.length=256):xY w b T vn va:=⟨hr,(h w (dQ.refl w)).1,(h w (dQ.refl w)).2,hc⟩
def Uk (n0:Nat) (va vb:Value) (an aa bn ba:OC) (A B:DF) (i:Nat) (v:Value) (w:World):Prop:=match i with
 | 0=>v=va
 | 1=>v= .agg ((bC (bT A) an aa).map oV).toArray
 | 2=>zQ w v (bT A).canon
 | 3=>∃vn va:OC,v= .agg ((bC (lN A) vn va).map oV).toArray∧Bv w vn va (lN A)
 | 4=>v=vb
 | 5=>v= .agg ((bC (bT B) bn ba).map oV).toArray
 | 6=>zQ w v (bT B).canon
 | 7=>∃vn va:OC,v= .agg ((bC (lN B) vn va).map oV).toArray∧Bv w vn va (lN B)
 | 8=>∃(p:Nat) (L:List OC),v= .pointer (some ⟨p,0,none⟩)∧n0≤p∧L.length=259∧Row oV w p 166 L
 | 9=>∃p:Nat,v= .pointer (some ⟨p,0,none⟩)∧n0≤p∧Row oV w p 166 (bC ⟨List.replicate 256 0,0,[],[]⟩ on on)
 | 10=>∃(p:Nat) (vn va:OC),v= .pointer (some ⟨p,0,none⟩)∧n0≤p∧Bv w vn va (lN A)∧Row oV w p 166 (bC (lN A) vn va)
 | _=>True
def PsC (i j:Nat) (v u:Value):Prop:=(i=8→j=9→v≠u)∧(i=8→j=10→v=u)
theorem WT {i:Nat} (h:i≠8∧i≠9∧i≠10) (j:Nat) (v u:Value):PsC i j v u∧PsC j i u v:=⟨⟨fun e=>absurd e h.1,fun e=>absurd e h.1⟩,⟨fun _ e=>absurd e h.2.1,fun _ e=>absurd e h.2.2⟩⟩
theorem Bo {n0:Nat} {va vb:Value} {an aa bn ba:OC} {A B:DF} {i:Nat} {v:Value} {w w':World} (h:Uk n0 va vb an aa bn ba A B i v w) (hb:Below w.heap.size w w'):Uk n0 va vb an aa bn ba A B i v w':=by
 have hk:=dQ.of_below hb
 match i,h with
 | 0,h=>exact h
 | 1,h=>exact h
 | 2,h=>exact zQ.keep h hk
 | 3,⟨vn,va,h1,h2⟩=>exact ⟨vn,va,h1,h2.keep hk⟩
 | 4,h=>exact h
 | 5,h=>exact h
 | 6,h=>exact zQ.keep h hk
 | 7,⟨vn,va,h1,h2⟩=>exact ⟨vn,va,h1,h2.keep hk⟩
 | 8,⟨p,L,h1,h2,h3,h4⟩=>exact ⟨p,L,h1,h2,h3,h4.below hb h4.lt⟩
 | 9,⟨p,h1,h2,h3⟩=>exact ⟨p,h1,h2,h3.below hb h3.lt⟩
 | 10,⟨p,vn,va,h1,h2,h3,h4⟩=>exact ⟨p,vn,va,h1,h2,h3.keep hk,h4.below hb h4.lt⟩
 | _+11,_=>trivial
theorem dA.aem {w:World} {vc vn va:OC} {D:DF} (h:dA w (.agg #[vc.1,vn.1,va.1]) D):kL w ((bC (bT D) vn va).map oV).toArray (bT D):=by
 obtain ⟨vc',vn',va',heq,h1,h2,h3⟩:=h;simp only [Value.agg.injEq,TU,Hg,G5] at heq;obtain ⟨rfl,rfl,rfl⟩:=heq;exact ⟨vn,va,rfl,h2,h3,jN D.cls D.cls.length⟩
section
variable {P:Program} {α:Type} {f:α→Value} {lv l':List α} {o:Oper} {a:Act} {w:World} {K:Act→World→Prop} {Q:Exit→Act→World→Prop}
theorem Gn {ty t:TypeId} (T:bU P ty l'.length) (x y:Operand) (ho:o.op= .store ty x y) (b:Nat) (hx:a.eval x= .pointer (some ⟨b,0,none⟩)) {C:Array Value} (hC:C=(l'.map f).toArray) (hy:a.eval y= .agg C) (h:Row f w b t lv) (hl:l'.length=lv.length) (h1:∀x,(f x).oneCell'=true)
  (hk:∀w',Row f w' b t l'→w.grownBy w' (some b)→w'.heap.size=w.heap.size→K (a.put o.dst undef) w'):o.wp P a w K Q:=by
 subst hC;obtain ⟨w',hr,h2,h3,h4⟩:=ng T h hl h1;unfold Oper.wp execOp;simp only [ho,hx,hy,Instr.storeAt,Instr.sureAddr,dR,iB,fT,hr];exact hk w' h2 h3 h4
end
theorem abk {α:Type} (l:List α) (h:l.length=11):∃a b c d e f g i j k m,l=[a,b,c,d,e,f,g,i,j,k,m]:=by
 match l,h with
 | [a,b,c,d,e,f,g,i,j,k,m],_=>exact ⟨a,b,c,d,e,f,g,i,j,k,m,rfl⟩
abbrev zT:TB:=⟨List.replicate 256 0,0,[],[]⟩
theorem UI {w:World} {e:Ending} {S:Option TB} (h:ab3 w e S):∃tn ta:OC,e= .returned (.tuple #[.agg ((bC (S.getD zT) tn ta).map oV).toArray, .bool S.isSome])∧Bv w tn ta (S.getD zT)∧(S.getD zT).cell.length=256:=by
 cases S with
 | none=>exact ⟨on,on,h,fun X _=>⟨.inl ⟨none,rfl,rfl⟩, .inl ⟨none,rfl,rfl⟩⟩,by simp⟩
 | some T=>
  obtain ⟨tn,ta,h1,h2,h3⟩:=h;exact ⟨tn,ta,h1,h2,h3⟩
theorem TB.Ok.Uc {T:TB} (h:T.Ok) {s c:Nat} (hs:s<T.nx.length) (hc:c<256):T.to s c<T.nx.length:=by
 have h1:=h.rw _ (aO T.nx s [] hs);have h2:=kZ h c hc;exact uK h.rb s _ (aO _ _ 0 (by rw [h1];exact h2))
theorem fG (x:TB) (s:Sx):(uF x s).1=s.1∧(uF x s).2.1=s.2.1:=by
 unfold uF;split<;>exact ⟨rfl,rfl⟩
def PhE (n0:Nat) (J:JS) (vj:Value) (pa pb eb:Nat) (x:TB) (T0:TB) (b0:Bool) (i:Nat) (v:Value) (w:World):Prop:=match i with
 | 0=>v= .agg (xE J.cell)
 | 1=>v=vj
 | 2=>v= .func (.func 181) #[] #[.pointer (some ⟨pa,0,none⟩)]
 | 3=>v= .agg (dz jX)
 | 4=>v= .agg (dz (uF x jX))
 | 5=>v= .func (.func 182) #[] #[.pointer (some ⟨eb,0,none⟩), .pointer (some ⟨pa,0,none⟩), .pointer (some ⟨pb,0,none⟩)]
 | 6=>v= .func (.func 185) #[] #[.pointer (some ⟨pb,0,none⟩)]
 | 7=>∃tn ta:OC,v= .tuple #[.agg ((bC T0 tn ta).map oV).toArray, .bool b0]∧Bv w tn ta T0
 | 8=>∃tn ta:OC,v= .tuple #[.agg ((bC T0 tn ta).map oV).toArray, .bool b0]∧Bv w tn ta T0
 | 9=>∃tn ta:OC,v= .agg ((bC T0 tn ta).map oV).toArray∧Bv w tn ta T0
 | 10=>v= .bool b0
 | 11=>∃(p:Nat) (L:List OC),v= .pointer (some ⟨p,0,none⟩)∧n0≤p∧L.length=259∧Row oV w p 166 L
 | 12=>∃(p:Nat) (tn ta:OC),v= .pointer (some ⟨p,0,none⟩)∧n0≤p∧Bv w tn ta T0∧Row oV w p 166 (bC T0 tn ta)
 | _=>True
def PsE (i j:Nat) (v u:Value):Prop:=i=11→j=12→v=u
theorem Zk {i:Nat} (h:i≠11∧i≠12) (j:Nat) (v u:Value):PsE i j v u∧PsE j i u v:=⟨fun e=>absurd e h.1,fun _ e=>absurd e h.2⟩
theorem Ls {n0:Nat} {J:JS} {vj:Value} {pa pb eb:Nat} {x T0:TB} {b0:Bool} {i:Nat} {v:Value} {w w':World} (h:PhE n0 J vj pa pb eb x T0 b0 i v w) (hb:Below w.heap.size w w'):PhE n0 J vj pa pb eb x T0 b0 i v w':=by
 have hk:=dQ.of_below hb
 match i,h with
 | 0,h=>exact h
 | 1,h=>exact h
 | 2,h=>exact h
 | 3,h=>exact h
 | 4,h=>exact h
 | 5,h=>exact h
 | 6,h=>exact h
 | 7,⟨vn,va,h1,h2⟩=>exact ⟨vn,va,h1,h2.keep hk⟩
 | 8,⟨vn,va,h1,h2⟩=>exact ⟨vn,va,h1,h2.keep hk⟩
 | 9,⟨vn,va,h1,h2⟩=>exact ⟨vn,va,h1,h2.keep hk⟩
 | 10,h=>exact h
 | 11,⟨p,L,h1,h2,h3,h4⟩=>exact ⟨p,L,h1,h2,h3,h4.below hb h4.lt⟩
 | 12,⟨p,vn,va,h1,h2,h3,h4⟩=>exact ⟨p,vn,va,h1,h2,h3.keep hk,h4.below hb h4.lt⟩
 | _+13,_=>trivial
theorem ads {α:Type} (l:List α) (h:l.length=13):∃a b c d e f g i j k m n o,l=[a,b,c,d,e,f,g,i,j,k,m,n,o]:=by
 match l,h with
 | [a,b,c,d,e,f,g,i,j,k,m,n,o],_=>exact ⟨a,b,c,d,e,f,g,i,j,k,m,n,o,rfl⟩
theorem Rb (w:World) (va vb:Value) (A B:DF) (hva:dA w va A) (hvb:dA w vb B) (hA:A.V) (hB:B.V) (uP:iw w) (htl:1<w.heap.size):
  Calls Tryz.prog 137 #[va,vb] w fun e w'=>∃v,e= .returned v∧fQ w' v (A.cat B)∧Below w.heap.size w w':=by
 have Lf:=af hA;have HVB:=af hB;have Sk:=af uP;have iL:=af htl;have HAA:=af hva;have P7:=af hvb;obtain ⟨ac,an,aa,rfl⟩:=hva.ocs;obtain ⟨bc,bn,ba,rfl⟩:=hvb.ocs;obtain ⟨LA,HLA⟩:∃L:List OC,Hid (L=[ac,an,aa]):=⟨_,af rfl⟩
 obtain ⟨LB,HLB⟩:∃L:List OC,Hid (L=[bc,bn,ba]):=⟨_,af rfl⟩
 obtain ⟨CA,EC⟩:∃C,Hid (C=(LA.map oV).toArray):=⟨_,af rfl⟩
 obtain ⟨CB,XZ⟩:∃C,Hid (C=(LB.map oV).toArray):=⟨_,af rfl⟩
 have hca: #[ac.1,an.1,aa.1]=CA:=by rw [EC.out,HLA.out];rfl
 have hcb: #[bc.1,bn.1,ba.1]=CB:=by rw [XZ.out,HLB.out];rfl
 have Hca:=af hca;have Qs:=af hcb;rw [hca] at HAA ⊢;rw [hcb] at P7 ⊢;have hla:LA.length=3:=by rw [HLA.out];rfl
 have hlb:LB.length=3:=by rw [HLB.out];rfl
 have hTA:bU Tryz.prog 79 LA.length:=by rw [hla];exact bQ
 have SL:bU Tryz.prog 79 LB.length:=by rw [hlb];exact bQ
 have rA0:Row oV (w.alloc (.cells CA 79)) w.heap.size 79 LA:=Row.new _ _ (by rw [EC.out]);have s0:(w.alloc (.cells CA 79)).heap.size=w.heap.size+1:=bR _ _
 have rB0:Row oV ((w.alloc (.cells CA 79)).alloc (.cells CB 79)) (w.heap.size+1) 79 LB:=by
  have h:=Row.new (f:=oV) (w.alloc (.cells CA 79)) (t:=79) (l:=LB) (.cells CB 79) (by rw [XZ.out])
  rwa [s0] at h
 have s1:((w.alloc (.cells CA 79)).alloc (.cells CB 79)).heap.size=w.heap.size+2:=by rw [bR,s0]
 have rR0:Row oV (((w.alloc (.cells CA 79)).alloc (.cells CB 79)).alloc (.cells #[.slice none 0 0, .slice none 0 0, .slice none 0 0] 79)) (w.heap.size+2) 79 [on,on,on]:=by
  have h:=Row.new (f:=oV) ((w.alloc (.cells CA 79)).alloc (.cells CB 79)) (t:=79) (l:=[on,on,on]) (.cells #[.slice none 0 0, .slice none 0 0, .slice none 0 0] 79) rfl
  rwa [s1] at h
 have b0:Below w.heap.size w (((w.alloc (.cells CA 79)).alloc (.cells CB 79)).alloc (.cells #[.slice none 0 0, .slice none 0 0, .slice none 0 0] 79)):=(((au _ _).alloc (ah _) _).alloc (by rw [s0];omega) _).alloc (by rw [s1];omega) _;have Y7:=(rA0.alloc (.cells CB 79)).alloc (.cells #[.slice none 0 0, .slice none 0 0, .slice none 0 0] 79);have rB1:=rB0.alloc (.cells #[.slice none 0 0, .slice none 0 0, .slice none 0 0] 79);clear hva hvb hA hB uP htl hca hcb hla hlb rA0 rB0;go_enter Tryz.func137,Tryz.ntmps137;go_upto_region 1 with (fail);generalize (((w.alloc (.cells CA 79)).alloc (.cells CB 79)).alloc (.cells #[.slice none 0 0, .slice none 0 0, .slice none 0 0] 79))=W at Y7 rB1 rR0 b0 ⊢;clear s0 s1;obtain ⟨tb,dF⟩:∃tb,Hid (w.heap.size=tb):=⟨_,af rfl⟩
 have aa9:=II W _ A (HAA.out.below b0) Lf.out;have aci:=af aa9;have HAW:=af (HAA.out.below b0);have HBW:=af (P7.out.below b0);rw [dF.out] at b0 Y7 rB1 rR0 ⊢;clear aa9;go_wp2_with ((with_reducible refine zL Y7.at hTA EC.out ?_));refine aci.out.mono ?_;rintro e Wa ⟨rfl,hBa⟩;have rBl:=rB1.lt;have rAa:=Y7.below hBa Y7.lt;have rBa:=rB1.below hBa rBl;have rRa:=rR0.below hBa rR0.lt;have bA:Below tb w Wa:=b0.trans (hBa.mono (by omega));have HAa:=af (HAW.out.below hBa);have HBa:=af (HBW.out.below hBa);have aaz:=II Wa _ B HBa.out HVB.out;have aaK:=af aaz;clear aaz Y7 rB1 rR0 b0 aci hBa rBl HAW HBW;go_wp2_with ((with_reducible refine uw (f:=oV) (l:=LB) (C:=CB) SL (.tmp 3) ?_ ?_ (tb+1) 0 ?_ rBa.at XZ.out ?_);rfl;rfl;rfl);refine aaK.out.mono ?_;rintro e Wb ⟨rfl,hBb⟩;have rBl:=rBa.lt;have rRl:=rRa.lt;have rA:=rAa.below hBb rAa.lt;have rB:=rBa.below hBb rBl;have rR:=rRa.below hBb rRl;have bB:Below tb w Wb:=bA.trans (hBb.mono (by omega));have HAb:=af (HAa.out.below hBb);have HBb:=af (HBa.out.below hBb);clear aaK rAa rBa rRa bA hBb rBl rRl HAa HBa;go_upto_region 3 with (fail);have Bi:Hid (∀X,Below Wb.heap.size Wb X→iw X):=af fun X h=>(Sk.out.below (B:=w.heap.size) (by rw [dF.out];exact bB) iL.out).below h (bO iL.out (by have:=bB.size;exact this));have HOA:=af (jO Lf.out.toOk);have HOB:=af (jO HVB.out.toOk);obtain ⟨n0,Hn0⟩:∃n,Hid (Wb.heap.size=n):=⟨_,af rfl⟩
 have AA:=af (BX Lf.out);have HXB:=af (BX HVB.out);refine oZ 11 [some 23,some 24,some 25,some 26,some 27,some 28,some 29,some 30,some 6,some 7,none] (fun _ X=>Below Wb.heap.size Wb X) (Uk Wb.heap.size (.agg CA) (.agg CB) an aa bn ba A B) PsC rfl (by kernel_rfl) (by kernel_rfl) (au _ _).drew ?_ ?_
 ·intro i o hi ho a X dn val hK hd hdn hG;have hst:∀{i:Nat} {v:Value} {X':World},i≠8∧i≠9∧i≠10→Below X.heap.size X X'→∀j,j<11→j≠i→dn j=true→Uk Wb.heap.size (.agg CA) (.agg CB) an aa bn ba A B j (val j) X'∧PsC i j v (val j)∧PsC j i (val j) v:=fun h hb j hj _ hdj=>⟨Bo (hK.got j hj hdj) hb,WT h j _ _⟩;have hDA:=HAb.out.below hG;have hDB:=HBb.out.below hG
  match i,hi,ho with
  | 0,_,ho=>
   obtain rfl:=dJ ho;exact sW (f:=oV) (lv:=LA) hTA (.tmp 2) rfl tb 0 (by show a.tmps.getD 2 undef=_;rw [hK.old 2 (by decide)];rfl) (rA.below hG rA.lt).at EC.out ⟨_,rfl,hG,rfl,hst (by decide) (au _ _)⟩
  | 1,_,ho=>
   obtain rfl:=dJ ho
   have e0:a.eval (.tmp 23)= .agg #[ac.1,an.1,aa.1]:=by
    show a.tmps.getD 23 undef=_;rw [hK.slot 0 (by decide) (hd 0 (by kernel_rfl)) 23 rfl,Hca.out];exact hK.got 0 (by decide) (hd 0 (by kernel_rfl))
   refine iY rfl (g:=70) (args:= #[a.eval (.tmp 23)]) (by first | rfl | kernel_rfl) ?_;rw [e0];refine (yA X ac.1 an aa A (by rw [Hca.out];exact hDA) Lf.out.mF (Bi.out X hG)).mono ?_;rintro e X' ⟨rfl,hb⟩;exact ⟨_,rfl,_,rfl,hG.trans (hb.mono hG.size),rfl,hst (by decide) hb⟩
  | 2,_,ho=>
   obtain rfl:=dJ ho
   have e0:a.eval (.tmp 24)= .agg ((bC (bT A) an aa).map oV).toArray:=by
    show a.tmps.getD 24 undef=_;rw [hK.slot 1 (by decide) (hd 1 (by kernel_rfl)) 24 rfl];exact hK.got 1 (by decide) (hd 1 (by kernel_rfl))
   refine iY rfl (g:=177) (args:= #[a.eval (.tmp 24)]) (by first | rfl | kernel_rfl) ?_;rw [e0];refine (K4 X _ (bT A) (dA.aem (vc:=ac) (by rw [Hca.out];exact hDA)) HOA.out).mono ?_;rintro e X' ⟨v,rfl,hv,hb⟩;exact ⟨_,rfl,_,rfl,hG.trans (hb.mono hG.size),hv,hst (by decide) hb⟩
  | 3,_,ho=>
   obtain rfl:=dJ ho;have h2:zQ X (val 2) (bT A).canon:=hK.got 2 (by decide) (hd 2 (by kernel_rfl));obtain ⟨vc,vn,va,hv⟩:=(h2 X (dQ.refl X)).ocs;rw [hv] at h2
   have e0:a.eval (.tmp 25)= .agg #[vc.1,vn.1,va.1]:=by
    show a.tmps.getD 25 undef=_;rw [hK.slot 2 (by decide) (hd 2 (by kernel_rfl)) 25 rfl,hv]
   refine iY rfl (g:=70) (args:= #[a.eval (.tmp 25)]) (by first | rfl | kernel_rfl) ?_;rw [e0];refine (yA X vc.1 vn va (bT A).canon (h2 X (dQ.refl X)) HOA.out.canon.1.mF (Bi.out X hG)).mono ?_;rintro e X' ⟨rfl,hb⟩;exact ⟨_,rfl,_,rfl,hG.trans (hb.mono hG.size),⟨vn,va,rfl,(zQ.tbS h2).keep (dQ.of_below hb)⟩,hst (by decide) hb⟩
  | 4,_,ho=>
   obtain rfl:=dJ ho;exact sW (f:=oV) (lv:=LB) SL (.tmp 3) rfl (tb+1) 0 (by show a.tmps.getD 3 undef=_;rw [hK.old 3 (by decide)];rfl) (rB.below hG rB.lt).at XZ.out ⟨_,rfl,hG,rfl,hst (by decide) (au _ _)⟩
  | 5,_,ho=>
   obtain rfl:=dJ ho
   have e0:a.eval (.tmp 27)= .agg #[bc.1,bn.1,ba.1]:=by
    show a.tmps.getD 27 undef=_;rw [hK.slot 4 (by decide) (hd 4 (by kernel_rfl)) 27 rfl,Qs.out];exact hK.got 4 (by decide) (hd 4 (by kernel_rfl))
   refine iY rfl (g:=70) (args:= #[a.eval (.tmp 27)]) (by first | rfl | kernel_rfl) ?_;rw [e0];refine (yA X bc.1 bn ba B (by rw [Qs.out];exact hDB) HVB.out.mF (Bi.out X hG)).mono ?_;rintro e X' ⟨rfl,hb⟩;exact ⟨_,rfl,_,rfl,hG.trans (hb.mono hG.size),rfl,hst (by decide) hb⟩
  | 6,_,ho=>
   obtain rfl:=dJ ho
   have e0:a.eval (.tmp 28)= .agg ((bC (bT B) bn ba).map oV).toArray:=by
    show a.tmps.getD 28 undef=_;rw [hK.slot 5 (by decide) (hd 5 (by kernel_rfl)) 28 rfl];exact hK.got 5 (by decide) (hd 5 (by kernel_rfl))
   refine iY rfl (g:=177) (args:= #[a.eval (.tmp 28)]) (by first | rfl | kernel_rfl) ?_;rw [e0];refine (K4 X _ (bT B) (dA.aem (vc:=bc) (by rw [Qs.out];exact hDB)) HOB.out).mono ?_;rintro e X' ⟨v,rfl,hv,hb⟩;exact ⟨_,rfl,_,rfl,hG.trans (hb.mono hG.size),hv,hst (by decide) hb⟩
  | 7,_,ho=>
   obtain rfl:=dJ ho;have h2:zQ X (val 6) (bT B).canon:=hK.got 6 (by decide) (hd 6 (by kernel_rfl));obtain ⟨vc,vn,va,hv⟩:=(h2 X (dQ.refl X)).ocs;rw [hv] at h2
   have e0:a.eval (.tmp 29)= .agg #[vc.1,vn.1,va.1]:=by
    show a.tmps.getD 29 undef=_;rw [hK.slot 6 (by decide) (hd 6 (by kernel_rfl)) 29 rfl,hv]
   refine iY rfl (g:=70) (args:= #[a.eval (.tmp 29)]) (by first | rfl | kernel_rfl) ?_;rw [e0];refine (yA X vc.1 vn va (bT B).canon (h2 X (dQ.refl X)) HOB.out.canon.1.mF (Bi.out X hG)).mono ?_;rintro e X' ⟨rfl,hb⟩;exact ⟨_,rfl,_,rfl,hG.trans (hb.mono hG.size),⟨vn,va,rfl,(zQ.tbS h2).keep (dQ.of_below hb)⟩,hst (by decide) hb⟩
  | 8,_,ho=>
   obtain rfl:=dJ ho;have hb:Below X.heap.size X (X.alloc (.cells gu 166)):=(au _ _).alloc (ah _) _;refine aB (v:= .pointer (some ⟨X.heap.size,0,none⟩)) (w':=X.alloc (.cells gu 166)) (by kernel_rfl) ⟨_,rfl,hG.trans (hb.mono hG.size),⟨X.heap.size,bC ⟨List.replicate 256 0,0,[],[]⟩ on on,rfl,hG.size,aW _ _ (by simp),Row.new _ _ rfl⟩,?_⟩;intro j hj hji hdj;refine ⟨Bo (hK.got j hj hdj) hb,⟨fun _ e=> ?_,fun _ e=> ?_⟩,⟨fun _ e=>(by cases e),fun _ e=>(by cases e)⟩⟩
   ·subst e;obtain ⟨p,h1,_,h3⟩:=hK.got 9 (by decide) hdj;rw [h1];intro e;injection e with e
    injection e with e
    injection e with e
    have:=h3.lt;omega
   ·subst e;have:=hK.clo 10 _ (by decide) rfl hdj 8 (by kernel_rfl);rw [hdn] at this;cases this
  | 9,_,ho=>
   obtain rfl:=dJ ho;have hb:Below X.heap.size X (X.alloc (.cells gu 166)):=(au _ _).alloc (ah _) _;refine aB (v:= .pointer (some ⟨X.heap.size,0,none⟩)) (w':=X.alloc (.cells gu 166)) (by kernel_rfl) ⟨_,rfl,hG.trans (hb.mono hG.size),⟨X.heap.size,rfl,hG.size,Row.new _ _ rfl⟩,?_⟩;intro j hj hji hdj;refine ⟨Bo (hK.got j hj hdj) hb,⟨fun e=>(by cases e),fun e=>(by cases e)⟩,⟨fun e _=> ?_,fun _ e=>(by cases e)⟩⟩;subst e;obtain ⟨p,L,h1,_,_,h3⟩:=hK.got 8 (by decide) hdj;rw [h1];intro e;injection e with e
   injection e with e
   injection e with e
   have:=h3.lt;omega
  | 10,_,ho=>
   obtain rfl:=dJ ho;obtain ⟨p,L,h1,hp0,hL,hr⟩:=hK.got 8 (by decide) (hd 8 (by kernel_rfl));obtain ⟨vn,va,h3,h4⟩:=hK.got 3 (by decide) (hd 3 (by kernel_rfl))
   have e6:a.eval (.tmp 6)= .pointer (some ⟨p,0,none⟩):=by
    show a.tmps.getD 6 undef=_;rw [hK.slot 8 (by decide) (hd 8 (by kernel_rfl)) 6 rfl,h1]
   have e26:a.eval (.tmp 26)= .agg ((bC (lN A) vn va).map oV).toArray:=by
    show a.tmps.getD 26 undef=_;rw [hK.slot 3 (by decide) (hd 3 (by kernel_rfl)) 26 rfl,h3]
   have hl:(bC (lN A) vn va).length=259:=aW _ _ AA.out.1.cl;refine Gn (f:=oV) (lv:=L) (l':=bC (lN A) vn va) (ty:=166) (t:=166) (by rw [hl];exact jd) (.tmp 6) (.tmp 26) rfl p e6 rfl e26 hr (by rw [hl,hL]) bF ?_;intro X' hr' Yo hz';have hk:=dQ.ET hr Yo;have hbG:Below Wb.heap.size Wb X':=hG.grown Yo hG.size (fun k e=>by injection e with e;omega);refine ⟨.pointer (some ⟨p,0,none⟩),rfl,hbG,⟨p,vn,va,rfl,hp0,h4.keep hk,hr'⟩,?_⟩;intro j hj hji hdj;refine ⟨?_,⟨fun e=>(by cases e),fun e=>(by cases e)⟩,⟨fun _ e=>(by cases e),fun e _=>(by subst e;exact h1)⟩⟩;have hgj:=hK.got j hj hdj
   match j,hj,hji,hdj,hgj with
   | 0,_,_,_,h=>exact h
   | 1,_,_,_,h=>exact h
   | 2,_,_,_,h=>exact zQ.keep h hk
   | 3,_,_,_,⟨un,ua,g1,g2⟩=>exact ⟨un,ua,g1,g2.keep hk⟩
   | 4,_,_,_,h=>exact h
   | 5,_,_,_,h=>exact h
   | 6,_,_,_,h=>exact zQ.keep h hk
   | 7,_,_,_,⟨un,ua,g1,g2⟩=>exact ⟨un,ua,g1,g2.keep hk⟩
   | 8,_,_,_,_=>exact ⟨p,bC (lN A) vn va,h1,hp0,hl,hr'⟩
   | 9,_,_,Ej,⟨q,g1,g2,g3⟩=>
    refine ⟨q,g1,g2,g3.grown Yo (fun e=> ?_)⟩;injection e with e
    exact (hK.two 8 9 (by decide) (by decide) (by decide) (hd 8 (by kernel_rfl)) Ej).1 rfl rfl (by rw [h1,g1,e])
   | 10,_,hne,_,_=>exact absurd rfl hne
 intro vs X dn hvl rC O8 _ hG;obtain ⟨v0,v1,v2,v3,v4,v5,v6,v7,v8,v9,v10,rfl⟩:=abk vs hvl;obtain ⟨yn,ya,hv7,hy⟩:Uk Wb.heap.size (.agg CA) (.agg CB) an aa bn ba A B 7 v7 X:=rC 7 (by decide);obtain ⟨pb,hv9,hpb,hrb⟩:Uk Wb.heap.size (.agg CA) (.agg CB) an aa bn ba A B 9 v9 X:=rC 9 (by decide);obtain ⟨pa,xn,xa,NV,hpa,hx,hra⟩:Uk Wb.heap.size (.agg CA) (.agg CB) an aa bn ba A B 10 v10 X:=rC 10 (by decide);have hv8:v8=v10:=(O8 8 10 (by decide) (by decide) (by decide)).2 rfl rfl;have hne:v8≠v9:=(O8 8 9 (by decide) (by decide) (by decide)).1 rfl rfl;rw [hv8,NV,hv9] at hne;have hab:pa≠pb:=fun e=>hne (by rw [e]);subst hv8;subst hv7 hv9 NV;have Hab:=af hab;clear rC O8 hvl hne hab;obtain ⟨x,Hx⟩:∃x,Hid (lN A=x):=⟨_,af rfl⟩
 obtain ⟨y,Hy⟩:∃x,Hid (lN B=x):=⟨_,af rfl⟩
 rw [Hx.out] at hx hra AA;rw [Hy.out] at hy HXB ⊢;have hcx:x.cell.length=256:=AA.out.1.cl;have hcy:y.cell.length=256:=HXB.out.1.cl;obtain ⟨LX,HLX⟩:∃L,Hid (bC x xn xa=L):=⟨_,af rfl⟩
 obtain ⟨LY,HLY⟩:∃L,Hid (bC y yn ya=L):=⟨_,af rfl⟩
 have hlx:LX.length=259:=by rw [← HLX.out];exact aW _ _ hcx
 have hly:LY.length=259:=by rw [← HLY.out];exact aW _ _ hcy
 have hTX:bU Tryz.prog 166 LX.length:=by rw [hlx];exact jd
 have hTY:bU Tryz.prog 166 LY.length:=by rw [hly];exact jd
 have hLz:LY.length=(bC ⟨List.replicate 256 0,0,[],[]⟩ on on).length:=by rw [hly,aW _ _ (by simp)]
 rw [HLX.out] at hra;rw [HLY.out];obtain ⟨CX,HCX⟩:∃C,Hid (C=(LX.map oV).toArray):=⟨_,af rfl⟩
 obtain ⟨CY,HCY⟩:∃C,Hid (C=(LY.map oV).toArray):=⟨_,af rfl⟩
 rw [← HCY.out];have Hcx:=af hcx;have Hcy:=af hcy;have HX0:=af hx;have HY0:=af hy;have HG0:=af hG;clear hcx hcy hlx hly hx hy hG;simp only [iy,zZ,Cy,yh,List.drop];go_upto_region 4 with ((with_reducible refine aK (f:=oV) (l:=bC ⟨List.replicate 256 0,0,[],[]⟩ on on) (l':=LY) (t:=166) (C:=CY) hTY (.tmp 7) (.tmp 30) ?_ ?_ pb ?_ HCY.out ?_ hrb hLz bF ?_);rfl;rfl;rfl;rfl;(intro W4 hs4 hG4 L8));have hk4:=dQ.ET hrb hG4;have hrx:=hra.grown hG4 (fun e=>by injection e with e;exact Hab.out e);have HQX:Hid (xY W4 pa x xn xa):=af ((HX0.out.keep hk4).q (by rw [HLX.out];exact hrx) Hcx.out);have HQY:Hid (xY W4 pb y yn ya):=af ((HY0.out.keep hk4).q (by rw [HLY.out];exact hs4) Hcy.out);have hB4:Below Wb.heap.size Wb W4:=HG0.out.grown hG4 HG0.out.size (fun k e=>by injection e with e;omega);have r4:=rR.below hB4 rR.lt;have bw4:Below tb w W4:=bB.trans (hB4.mono (by have:=rR.lt;omega));have r4l:=r4.lt;clear hk4 hra hrb hG4 L8 HX0 HY0 HG0 hB4 hLz rA rB rR bB hpa hpb Hn0 HAb HBb;obtain ⟨J,HJ⟩:∃J,Hid (BK x y=J):=⟨_,af rfl⟩
 have Xh:∀c∈x.cell,c<65536:=fun c hc=>by have h1:=AA.out.1.cb c hc;have h2:=AA.out.1.mF;omega
 have hyc:∀c∈y.cell,c<65536:=fun c hc=>by have h1:=HXB.out.1.cb c hc;have h2:=HXB.out.1.mF;omega
 have hjo:=Vz W4 CX CY x y (by rw [HCX.out,← HLX.out];exact HQX.out.tbB.at') (by rw [HCY.out,← HLY.out];exact HQY.out.tbB.at') Xh hyc;rw [HJ.out] at hjo;have Hjo:=af hjo;have wP:Hid (JS.Ok 256 J):=af (by rw [← HJ.out];exact j5 _ _ 256 (ah _));have aar:Hid (1≤J.bs.length):=af (by rw [← HJ.out];exact xN _ _ 255);clear Xh hyc hjo
 go_wp2_with (first
  | ((with_reducible refine zL hrx.at hTX HCX.out ?_))
  | ((with_reducible refine zL hs4.at hTY HCY.out ?_)))
 refine Hjo.out.mono ?_;rintro e Wg ⟨pj,cj,rfl,hOj,hBg⟩;have hAJ:bU Tryz.prog 152 J.cell.length:=by rw [wP.out.cl];exact PI
 have hzl:J.cell.length=(List.replicate 256 0).length:=by rw [wP.out.cl,Tw]
 have rc:=IK (w:=Wg) rfl
 go_upto_region 5 with (first
  | ((with_reducible refine gI (t:=152) nP Ct ?_ ?_ Wg.heap.size ?_ ?_);rfl;rfl;rfl)
  | ((with_reducible refine aK (f:=nV) (l:=List.replicate 256 0) (l':=J.cell) (t:=152) (C:=xE J.cell) hAJ (.tmp 8) (.tmp 35) ?_ ?_ Wg.heap.size ?_ rfl ?_ rc hzl uQ ?_);rfl;rfl;rfl;rfl;(intro Wh hsh hGh hzh)))
 have Hl:Below Wg.heap.size Wg (Wg.alloc (.cells nP 152)):=(au _ _).alloc (ah _) _;have Vl:Below Wg.heap.size Wg Wh:=Hl.grown hGh (by rw [bR];omega) (fun k e=>by injection e with e;omega);have MH:Below W4.heap.size W4 Wh:=hBg.trans (Vl.mono hBg.size);have ae5:=af (HQX.out.below MH);have aeJ:=af (HQY.out.below MH);have rH:=r4.below MH r4l;have bH:Below tb w Wh:=bw4.trans (MH.mono (by omega));have HOh:=af ((hOj.below' Vl).rd);have aat:=hsh.lt;have rHl:=rH.lt;clear hs4 hrx r4 r4l bw4 hOj hBg rc hGh hzh Hl Vl MH HQX HQY Hjo;obtain ⟨cb,aeR⟩:∃b,Hid (Wg.heap.size=b):=⟨_,af rfl⟩
 rw [aeR.out] at hsh aat ⊢;clear aeR;clear Wg
 have e0:(Wh.alloc (.cells #[.nilFunc] 287)).cell? ⟨Wh.heap.size,0,none⟩=some .nilFunc:=by
  unfold World.cell?;rw [World.alloc_heap_new];rfl
 have f0:(Wh.alloc (.cells #[.nilFunc] 287)).frozen? ⟨Wh.heap.size,0,none⟩=false:=by
  unfold World.frozen?;rw [World.alloc_heap_new];rfl
 have hst:(Go.store ⟨Wh.heap.size,0,none⟩ (Value.func (.func 181) #[] #[.pointer (some ⟨pa,0,none⟩)])).run Tryz.prog (Wh.alloc (.cells #[.nilFunc] 287))= .ok () ((Wh.alloc (.cells #[.nilFunc] 287)).setCell ⟨Wh.heap.size,0,none⟩ (Value.func (.func 181) #[] #[.pointer (some ⟨pa,0,none⟩)])):=by
  rw [run_store _ _ _ _ _ rfl,e0];simp [f0]
 have hfE:(Wh.alloc (.cells #[Value.func (.func 181) #[] #[.pointer (some ⟨pa,0,none⟩)]] 287)).heap[Wh.heap.size]?=some (.cells #[Value.func (.func 181) #[] #[.pointer (some ⟨pa,0,none⟩)]] 287):=by
  rw [World.alloc_heap_new]
 have S9:Below Wh.heap.size Wh (Wh.alloc (.cells #[Value.func (.func 181) #[] #[.pointer (some ⟨pa,0,none⟩)]] 287)):=(au _ _).alloc (ah _) _;clear e0 f0;go_upto_region 7 with (fail);clear hst;generalize (Wh.alloc (.cells #[Value.func (.func 181) #[] #[.pointer (some ⟨pa,0,none⟩)]] 287))=Wi at hfE S9 ⊢;have aeB:=af (ae5.out.below S9);have aeg:=af (aeJ.out.below S9);have rI:=rH.below S9 rHl;have bI:Below tb w Wi:=bH.trans (S9.mono (by omega));have hcI:=hsh.below S9 aat;have HOi:=af (HOh.out.below S9);have aev:Wh.heap.size<Wi.heap.size:=(jg.1 hfE).1;have rIl:=rI.lt;have af4:=hcI.lt;clear ae5 aeJ rH bH hsh HOh S9 rHl aat;obtain ⟨eb,Heb⟩:∃b,Hid (Wh.heap.size=b):=⟨_,af rfl⟩
 rw [Heb.out] at hfE aev ⊢;clear Heb;clear Wh
 have HFC:Hid (∀X,Below Wi.heap.size Wi X→X.cell? ⟨eb,0,none⟩=some (.func (.func 181) #[] #[.pointer (some ⟨pa,0,none⟩)])):=af fun X h=>by
  unfold World.cell?;rw [h.block eb aev,hfE];rfl
 clear hfE;obtain ⟨S,zY⟩:∃S,Hid (QZ x y=S):=⟨_,af rfl⟩
 have aed:Hid (A.cat B=V4 S):=af (by unfold DF.cat;rw [Hx.out,Hy.out,zY.out]);have HSe:Hid (vP J.cell J.bs (uF x jX) (vN x y) (fun s=>y.some s.2.2) 4096 4096=S):=af (by rw [← zY.out];unfold QZ;rw [HJ.out]);have HBs:Hid (∀c∈J.bs,c<256):=af fun c hc=>wP.out.bb c hc
 have HCb:Hid (∀c∈J.cell,c<J.bs.length):=af fun c hc=>by
  have h1:=wP.out.cb c hc;have h2:=wP.out.bl;have h3:=aar.out;omega
 have ahK:Hid (x.nx.length≤64∧1≤x.nx.length):=af ⟨AA.out.2,AA.out.1.n1⟩;obtain ⟨T0,HT0⟩:∃T,Hid (S.getD zT=T):=⟨_,af rfl⟩
 obtain ⟨b0,Hb0⟩:∃b,Hid (S.isSome=b):=⟨_,af rfl⟩
 have HTC:Hid (T0.cell.length=256):=af (by
  rw [← HT0.out]
  cases hS:S with
  | none=>simp
  | some T=>
   have h:=HSe.out
   rw [hS] at h
   unfold vP at h
   obtain ⟨z,_,h2⟩:=Option.map_eq_some_iff.1 h
   rw [← h2]
   exact wP.out.cl)
 refine oZ 13 [some 40,some 41,some 42,some 43,some 44,some 45,some 46,some 47,some 39,some 48,some 49,some 12,none] (fun _ X=>Below Wi.heap.size Wi X) (PhE Wi.heap.size J (.slice pj J.bs.length cj) pa pb eb x T0 b0) PsE rfl (by kernel_rfl) (by kernel_rfl) (au _ _).drew ?_ ?_
 ·intro i o hi ho a X dn val hK hd hdn hG;have hst:∀{i:Nat} {v:Value} {X':World},i≠11∧i≠12→Below X.heap.size X X'→∀j,j<13→j≠i→dn j=true→PhE Wi.heap.size J (.slice pj J.bs.length cj) pa pb eb x T0 b0 j (val j) X'∧PsE i j v (val j)∧PsE j i (val j) v:=fun h hb j hj _ hdj=>⟨Ls (hK.got j hj hdj) hb,Zk h j _ _⟩
  match i,hi,ho with
  | 0,_,ho=>
   obtain rfl:=dJ ho;exact sW (f:=nV) (lv:=J.cell) hAJ (.tmp 8) rfl cb 0 (by show a.tmps.getD 8 undef=_;rw [hK.old 8 (by decide)];rfl) (hcI.below hG af4).at rfl ⟨_,rfl,hG,rfl,hst (by decide) (au _ _)⟩
  | 1,_,ho=>
   obtain rfl:=dJ ho;have e0:a.eval (.tmp 9)= .slice pj J.bs.length cj:=by show a.tmps.getD 9 undef=_;rw [hK.old 9 (by decide)];rfl
   exact aB (v:=a.eval (.tmp 9)) (w':=X) (by first | rfl | kernel_rfl) ⟨_,rfl,hG,e0,hst (by decide) (au _ _)⟩
  | 2,_,ho=>
   obtain rfl:=dJ ho;have e0:a.eval (.tmp 10)= .pointer (some ⟨eb,0,none⟩):=by show a.tmps.getD 10 undef=_;rw [hK.old 10 (by decide)];rfl
   have hc:=HFC.out X hG;refine aB (v:= .func (.func 181) #[] #[.pointer (some ⟨pa,0,none⟩)]) (w':=X) ?_ ⟨_,rfl,hG,rfl,hst (by decide) (au _ _)⟩;unfold execOp;simp only [e0];go_simp
  | 3,_,ho=>
   obtain rfl:=dJ ho;exact aB (v:= .agg (dz jX)) (w':=X) (by first | rfl | kernel_rfl) ⟨_,rfl,hG,rfl,hst (by decide) (au _ _)⟩
  | 4,_,ho=>
   obtain rfl:=dJ ho
   have e2:a.eval (.tmp 42)= .func (.func 181) #[] #[.pointer (some ⟨pa,0,none⟩)]:=by
    show a.tmps.getD 42 undef=_;rw [hK.slot 2 (by decide) (hd 2 (by kernel_rfl)) 42 rfl];exact hK.got 2 (by decide) (hd 2 (by kernel_rfl))
   have e3:a.eval (.tmp 43)= .agg (dz jX):=by
    show a.tmps.getD 43 undef=_;rw [hK.slot 3 (by decide) (hd 3 (by kernel_rfl)) 43 rfl];exact hK.got 3 (by decide) (hd 3 (by kernel_rfl))
   refine iY rfl (g:=181) (args:= #[.agg (dz jX), .pointer (some ⟨pa,0,none⟩)]) ?_ ?_
   ·have hen:∀(args:Array Value) (w:World),Sem.run Tryz.prog (callFunc 181 args) w= .ok (.enter 181 args) w:=fun args w=>by kernel_rfl
    simp [execOp,resolve,invoke,Deferred.ofValue,e2,e3,hen]
   refine (Nf X pa x xn xa (aeB.out.below hG) AA.out.1 jX AA.out.1.n1).mono ?_;rintro e X' ⟨rfl,hb⟩;exact ⟨_,rfl,_,rfl,hG.trans (hb.mono hG.size),rfl,hst (by decide) hb⟩
  | 5,_,ho=>
   obtain rfl:=dJ ho;have e0:a.eval (.tmp 11)= .func (.func 182) #[] #[.pointer (some ⟨eb,0,none⟩), .pointer (some ⟨pa,0,none⟩), .pointer (some ⟨pb,0,none⟩)]:=by show a.tmps.getD 11 undef=_;rw [hK.old 11 (by decide)];rfl
   exact aB (v:=a.eval (.tmp 11)) (w':=X) (by first | rfl | kernel_rfl) ⟨_,rfl,hG,e0,hst (by decide) (au _ _)⟩
  | 6,_,ho=>
   obtain rfl:=dJ ho;have e0:a.eval (.tmp 7)= .pointer (some ⟨pb,0,none⟩):=by show a.tmps.getD 7 undef=_;rw [hK.old 7 (by decide)];rfl
   exact aB (v:= .func (.func 185) #[] #[a.eval (.tmp 7)]) (w':=X) (by first | rfl | kernel_rfl) ⟨_,rfl,hG,by rw [e0];rfl,hst (by decide) (au _ _)⟩
  | 7,_,ho=>
   obtain rfl:=dJ ho;have sl:∀i d,i<13→dn i=true→[some 40,some 41,some 42,some 43,some 44,some 45,some 46,some 47,some 39,some 48,some 49,some 12,none][i]?=some (some d)→a.eval (.tmp d)=val i:=fun i d h1 h2 h3=>hK.slot i h1 h2 d h3;have e0:a.eval (.tmp 40)= .agg (xE J.cell):=by rw [sl 0 40 (by decide) (hd 0 (by kernel_rfl)) rfl];exact hK.got 0 (by decide) (hd 0 (by kernel_rfl))
   have e1:a.eval (.tmp 41)= .slice pj J.bs.length cj:=by rw [sl 1 41 (by decide) (hd 1 (by kernel_rfl)) rfl];exact hK.got 1 (by decide) (hd 1 (by kernel_rfl))
   have e4:a.eval (.tmp 44)= .agg (dz (uF x jX)):=by rw [sl 4 44 (by decide) (hd 4 (by kernel_rfl)) rfl];exact hK.got 4 (by decide) (hd 4 (by kernel_rfl))
   have e5:a.eval (.tmp 45)= .func (.func 182) #[] #[.pointer (some ⟨eb,0,none⟩), .pointer (some ⟨pa,0,none⟩), .pointer (some ⟨pb,0,none⟩)]:=by rw [sl 5 45 (by decide) (hd 5 (by kernel_rfl)) rfl];exact hK.got 5 (by decide) (hd 5 (by kernel_rfl))
   have e6:a.eval (.tmp 46)= .func (.func 185) #[] #[.pointer (some ⟨pb,0,none⟩)]:=by rw [sl 6 46 (by decide) (hd 6 (by kernel_rfl)) rfl];exact hK.got 6 (by decide) (hd 6 (by kernel_rfl))
   refine iY rfl (g:=184) (args:= #[a.eval (.tmp 40),a.eval (.tmp 41),a.eval (.tmp 44),a.eval (.tmp 45),a.eval (.tmp 46), .int .i64 4096]) (by first | rfl | kernel_rfl) ?_;rw [e0,e1,e4,e5,e6]
   have AY:NxC X 182 #[.pointer (some ⟨eb,0,none⟩), .pointer (some ⟨pa,0,none⟩), .pointer (some ⟨pb,0,none⟩)] (fun s=>s.1<x.nx.length∧s.2.1=0) J.bs (vN x y):=
    ⟨fun args w=>by kernel_rfl,fun Y hY s hs c hc=>abN Y eb pa pb x y xn xa yn ya (fun Z hZ=>HFC.out Z ((hG.trans (hY.mono hG.size)).trans (hZ.mono (aL hG.size hY.size)))) (aeB.out.below (hG.trans (hY.mono hG.size))) (aeg.out.below (hG.trans (hY.mono hG.size))) AA.out.1 HXB.out.1 HXB.out.2 s hs.1 c (HBs.out c hc)⟩
   have hAc:AcC X 185 #[.pointer (some ⟨pb,0,none⟩)] (fun s=>s.1<x.nx.length∧s.2.1=0) (fun s=>y.some s.2.2):=
    ⟨fun args w=>by kernel_rfl,fun Y hY s _=>adK Y pb y yn ya (aeg.out.below (hG.trans (hY.mono hG.size))) HXB.out.1 HXB.out.2 s⟩
   refine (MX X (xE J.cell) J.cell rfl wP.out.cl _ J.bs (HOi.out.below hG) wP.out.le (fun s=>s.1<x.nx.length∧s.2.1=0) (uF x jX) ⟨by rw [(fG x jX).1];exact AA.out.1.n1,(fG x jX).2⟩ (fun s h=>⟨by have:=AA.out.2;omega,by rw [h.2];decide⟩) (vN x y) (fun s=>y.some s.2.2)
    (fun s hs c hc=>⟨by unfold vN;rw [(fG x _).1];exact AA.out.1.Uc hs.1 (HBs.out c hc),by unfold vN;rw [(fG x _).2]⟩) _ _ _ _ AY hAc 4096 4096 (by decide) (by decide) (fun l h=>h.le) (by decide)).mono ?_
   rintro e X' ⟨hb,hE⟩;rw [HSe.out] at hE;obtain ⟨tn,ta,rfl,hS,_⟩:=UI hE;rw [HT0.out,Hb0.out];rw [HT0.out] at hS;exact ⟨_,rfl,_,rfl,hG.trans (hb.mono hG.size),⟨tn,ta,rfl,hS⟩,hst (by decide) hb⟩
  | 8,_,ho=>
   obtain rfl:=dJ ho;have e0:a.eval (.tmp 47)=val 7:=hK.slot 7 (by decide) (hd 7 (by kernel_rfl)) 47 rfl;exact aB (v:=a.eval (.tmp 47)) (w':=X) (by first | rfl | kernel_rfl) ⟨_,rfl,hG,by rw [e0];exact hK.got 7 (by decide) (hd 7 (by kernel_rfl)),hst (by decide) (au _ _)⟩
  | 9,_,ho=>
   obtain rfl:=dJ ho;obtain ⟨tn,ta,h1,h2⟩:=hK.got 8 (by decide) (hd 8 (by kernel_rfl));have e0:a.eval (.tmp 39)= .tuple #[.agg ((bC T0 tn ta).map oV).toArray, .bool b0]:=(hK.slot 8 (by decide) (hd 8 (by kernel_rfl)) 39 rfl).trans h1;refine aB (v:= .agg ((bC T0 tn ta).map oV).toArray) (w':=X) ?_ ⟨_,rfl,hG,⟨tn,ta,rfl,h2⟩,hst (by decide) (au _ _)⟩;unfold execOp;simp only [e0];go_simp
  | 10,_,ho=>
   obtain rfl:=dJ ho;obtain ⟨tn,ta,h1,h2⟩:=hK.got 8 (by decide) (hd 8 (by kernel_rfl));have e0:a.eval (.tmp 39)= .tuple #[.agg ((bC T0 tn ta).map oV).toArray, .bool b0]:=(hK.slot 8 (by decide) (hd 8 (by kernel_rfl)) 39 rfl).trans h1;refine aB (v:= .bool b0) (w':=X) ?_ ⟨_,rfl,hG,rfl,hst (by decide) (au _ _)⟩;unfold execOp;simp only [e0];go_simp
  | 11,_,ho=>
   obtain rfl:=dJ ho;have hb:Below X.heap.size X (X.alloc (.cells gu 166)):=(au _ _).alloc (ah _) _;refine aB (v:= .pointer (some ⟨X.heap.size,0,none⟩)) (w':=X.alloc (.cells gu 166)) (by kernel_rfl) ⟨_,rfl,hG.trans (hb.mono hG.size),⟨X.heap.size,bC ⟨List.replicate 256 0,0,[],[]⟩ on on,rfl,hG.size,aW _ _ (by simp),Row.new _ _ rfl⟩,?_⟩;intro j hj hji hdj;refine ⟨Ls (hK.got j hj hdj) hb,fun _ e=> ?_,fun _ e=>(by cases e)⟩;subst e;have:=hK.clo 12 _ (by decide) rfl hdj 11 (by kernel_rfl);rw [hdn] at this;cases this
  | 12,_,ho=>
   obtain rfl:=dJ ho;obtain ⟨p,L,h1,hp0,hL,hr⟩:=hK.got 11 (by decide) (hd 11 (by kernel_rfl));obtain ⟨vn,va,h3,h4⟩:=hK.got 9 (by decide) (hd 9 (by kernel_rfl));have e6:a.eval (.tmp 12)= .pointer (some ⟨p,0,none⟩):=(hK.slot 11 (by decide) (hd 11 (by kernel_rfl)) 12 rfl).trans h1;have e26:a.eval (.tmp 48)= .agg ((bC T0 vn va).map oV).toArray:=(hK.slot 9 (by decide) (hd 9 (by kernel_rfl)) 48 rfl).trans h3;have hl:(bC T0 vn va).length=259:=aW _ _ HTC.out;refine Gn (f:=oV) (lv:=L) (l':=bC T0 vn va) (ty:=166) (t:=166) (by rw [hl];exact jd) (.tmp 12) (.tmp 48) rfl p e6 rfl e26 hr (by rw [hl,hL]) bF ?_;intro X' hr' Yo hz';have hk:=dQ.ET hr Yo;have hbG:Below Wi.heap.size Wi X':=hG.grown Yo hG.size (fun k e=>by injection e with e;omega);refine ⟨.pointer (some ⟨p,0,none⟩),rfl,hbG,⟨p,vn,va,rfl,hp0,h4.keep hk,hr'⟩,?_⟩;intro j hj hji hdj;refine ⟨?_,fun e=>(by cases e),fun e _=>(by subst e;exact h1)⟩;have hgj:=hK.got j hj hdj
   match j,hj,hji,hdj,hgj with
   | 0,_,_,_,h=>exact h
   | 1,_,_,_,h=>exact h
   | 2,_,_,_,h=>exact h
   | 3,_,_,_,h=>exact h
   | 4,_,_,_,h=>exact h
   | 5,_,_,_,h=>exact h
   | 6,_,_,_,h=>exact h
   | 7,_,_,_,⟨un,ua,g1,g2⟩=>exact ⟨un,ua,g1,g2.keep hk⟩
   | 8,_,_,_,⟨un,ua,g1,g2⟩=>exact ⟨un,ua,g1,g2.keep hk⟩
   | 9,_,_,_,⟨un,ua,g1,g2⟩=>exact ⟨un,ua,g1,g2.keep hk⟩
   | 10,_,_,_,h=>exact h
   | 11,_,_,_,_=>exact ⟨p,bC T0 vn va,h1,hp0,hl,hr'⟩
   | 12,_,hne,_,_=>exact absurd rfl hne
 intro vs X dn hvl rC O8 _ hG;obtain ⟨u0,u1,u2,u3,u4,u5,u6,u7,u8,u9,u10,u11,u12,rfl⟩:=ads vs hvl;obtain ⟨pt,tn,ta,ahf,hpt,ht,hrt⟩:PhE Wi.heap.size J (.slice pj J.bs.length cj) pa pb eb x T0 b0 12 u12 X:=rC 12 (by decide);have NV:u10= .bool b0:=rC 10 (by decide);have agO:u11=u12:=O8 11 12 (by decide) (by decide) (by decide) rfl rfl;subst agO NV;subst ahf;have rX:=rI.below hG rIl;have bX:Below tb w X:=bI.trans (hG.mono (by omega));have ahC:=hrt.lt;obtain ⟨LT,KD⟩:∃L,Hid (bC T0 tn ta=L):=⟨_,af rfl⟩
 have hlt:LT.length=259:=by rw [← KD.out];exact aW _ _ HTC.out
 have hTT:bU Tryz.prog 166 LT.length:=by rw [hlt];exact jd
 have HTA:Hid (kL X (LT.map oV).toArray T0):=af (by rw [← KD.out];exact ((ht.q hrt HTC.out).tbB).at');rw [KD.out] at hrt;obtain ⟨CT,HCT⟩:∃C,Hid (C=(LT.map oV).toArray):=⟨_,af rfl⟩
 rw [← HCT.out] at HTA;clear rC O8 hvl ht hG rI bI hcI hlt;simp only [iy,zZ,Cy,yh,List.drop];have rXl:=rX.lt;have hSb:=Hb0.out;cases b0 with
 | false=>
  have HE2:Hid (A.cat B= .error 2):=af (by
   rw [aed.out]
   cases hS:S with
   | none=>rfl
   | some T=>rw [hS] at hSb;cases hSb)
  go_wp2_with ((with_reducible refine zS (l':=[on,on,on]) rX bQ ?_);(intro W9 iO dB tY));have dV:Below tb w W9:=bX.grown dB (by have:=bX.size;rw [dF.out] at this;omega) (fun k e=>by injection e with e;omega);refine fJ (v:= .tuple #[.agg #[.slice none 0 0, .slice none 0 0, .slice none 0 0], .int .i64 2]) (bG (f:=oV) (l:=[on,on,on]) (t:=5) rfl _ bQ (tb+2) 0 rfl iO.at) rfl ?_;exact ⟨_,rfl,by rw [HE2.out];rfl,by rw [dF.out];exact dV⟩
 | true=>
  have HE2:Hid (A.cat B=lim T0∧T0.Ok):=af (by
   cases hS:S with
   | none=>rw [hS] at hSb;cases hSb
   | some T=>
    have hT:T=T0:=by rw [← HT0.out,hS];rfl
    rw [aed.out,hS,hT]
    refine ⟨rfl,?_⟩
    have h:=HSe.out
    rw [hS,hT] at h
    exact Dv (ok:=fun s=>s.1<x.nx.length∧s.2.1=0) (K:=4096) ⟨by rw [(fG x jX).1];exact AA.out.1.n1,(fG x jX).2⟩ (by decide) (fun s hs c hc=>⟨by unfold vN;rw [(fG x _).1];exact AA.out.1.Uc hs.1 (HBs.out c hc),by unfold vN;rw [(fG x _).2]⟩) (fun l h=>h.le) (by decide) wP.out.cl wP.out.le HCb.out h)
  clear hSb;go_wp2_with ((with_reducible refine zL hrt.at hTT HCT.out ?_));refine (aes X CT T0 HTA.out HE2.out.2).mono ?_;rintro e Wk ⟨z2,rfl,hv2,wG⟩;have hRk:=rX.below wG rXl;have KJ:Below tb w Wk:=bX.trans (wG.mono (by have:=bX.size;rw [dF.out] at this;omega));obtain ⟨R,K6⟩:∃R,Hid (lim T0=R):=⟨_,af rfl⟩
  rw [K6.out] at hv2;have HE3:Hid (A.cat B=R):=af (HE2.out.1.trans K6.out);clear wG rX hrt;cases hds:R with
  | error n=>
   rw [hds] at hv2;have TL:Hid (A.cat B= .error n):=af (HE3.out.trans hds);cases hv2;clear hds;go_wp2_with ((with_reducible refine zS (l':=[on,on,on]) hRk bQ ?_);(intro W9 iO dB tY));have dV:Below tb w W9:=KJ.grown dB (by have:=hRk.lt;omega) (fun k e=>by injection e with e;omega);refine fJ (v:= .tuple #[.agg #[.slice none 0 0, .slice none 0 0, .slice none 0 0], .int .i64 (n:Int)]) (bG (f:=oV) (l:=[on,on,on]) (t:=5) rfl _ bQ (tb+2) 0 rfl iO.at) rfl ?_;exact ⟨_,rfl,by rw [TL.out];rfl,by rw [dF.out];exact dV⟩
  | ok E=>
   rw [hds] at hv2;have TL:Hid (A.cat B= .ok E):=af (HE3.out.trans hds)
   have HEO:Hid E.Ok:=af (by
    have h:lim T0= .ok E:=K6.out.trans hds
    unfold lim at h
    split at h
    ·injection h with h;rw [← h];exact HE2.out.2.canon.1
    ·cases h)
   obtain ⟨u,rfl,hu⟩:=hv2;obtain ⟨q1,j1,q2,j2,q3,j3,rfl⟩:=hu.parts;have HU:=af hu;obtain ⟨m1,Hm1⟩:∃n,Hid (E.cls.length=n):=⟨_,af rfl⟩
   obtain ⟨m2,Hm2⟩:∃n,Hid (E.nx.length=n):=⟨_,af rfl⟩
   obtain ⟨m3,Hm3⟩:∃n,Hid (E.ac.length=n):=⟨_,af rfl⟩
   rw [Hm1.out,Hm2.out,Hm3.out] at HU ⊢;clear hds hu;go_wp2_with ((with_reducible refine zS (l':=bL q1 m1 j1 q2 m2 j2 q3 m3 j3) hRk bQ ?_);(intro W9 iO dB tY));have dV:Below tb w W9:=KJ.grown dB (by have:=hRk.lt;omega) (fun k e=>by injection e with e;omega);refine fJ (v:= .tuple #[.agg #[.slice q1 m1 j1, .slice q2 m2 j2, .slice q3 m3 j3], .int .i64 0]) (bG (f:=oV) (l:=bL q1 m1 j1 q2 m2 j2 q3 m3 j3) (t:=5) rfl _ bQ (tb+2) 0 rfl iO.at) rfl ?_;refine ⟨_,rfl,?_,by rw [dF.out];exact dV⟩;rw [TL.out];exact ⟨_,rfl,HU.out.avoid HEO.out hRk dB⟩
end
section
open Go Go.RowKit Mem
theorem JU {w:World} {b:Nat} {t:TypeId} {p1 p2 p3:Option Addr} {n1 k1 n2 k2 n3 k3:Nat} (hr:Row oV w b t (bL p1 n1 k1 p2 n2 k2 p3 n3 k3)) (i:Nat) (v:Value) (h:w.cell? ⟨b,i,none⟩=some v):v= .slice p1 n1 k1∨v= .slice p2 n2 k2∨v= .slice p3 n3 k3:=by
 rw [hr.cell?] at h
 match i,h with
 | 0,h=>injection h with h;exact .inl h.symm
 | 1,h=>injection h with h;exact .inr (.inl h.symm)
 | 2,h=>injection h with h;exact .inr (.inr h.symm)
 | n+3,h=>cases h
theorem Km {α:Type} {f:α→Value} {w w':World} {v:Value} {l:List α} {b:Nat} {t:TypeId} {p1 p2 p3:Option Addr} {n1 k1 n2 k2 n3 k3:Nat} (h:Rd f w v l) (hf:∀x p n k,f x≠ .slice p n k) (hr:Row oV w b t (bL p1 n1 k1 p2 n2 k2 p3 n3 k3)) (hg:w.grownBy w' (some b)):Rd f w' v l:=by
 rcases h with hn | ⟨g,o,cap,rfl,hc,ha,hlt⟩
 ·exact .inl hn
 ·by_cases h0:0<l.length
  ·refine .inr ⟨g,o,cap,rfl,hc,ha.grown hg hlt (fun e=> ?_),bO hlt hg.size⟩;injection e with e
   subst e;have:=ha 0 h0;rw [bM h0] at this;rcases JU hr _ _ this with h | h | h<;>exact hf _ _ _ _ h
  ·exact .inr ⟨g,o,cap,rfl,hc,fun i hi=>by omega,bO hlt hg.size⟩
theorem oL {w:World} {p:Option Addr} {n k:Nat} {l:List Nat} (h:Rd nV w (.slice p n k) l) (h0:0<l.length):∃b o x,p=some ⟨b,o,none⟩∧w.cell? ⟨b,o,none⟩=some (.int .i64 x):=by
 rcases h with ⟨_,_,e⟩ | ⟨b,o,cap,e,_,ha,_⟩
 ·rw [e] at h0;cases h0
 ·injection e with e
  have:=ha 0 h0;rw [bM h0] at this;exact ⟨b,o,_,e,this⟩
theorem dA.adz {w w':World} {v:Value} {D P:DF} {b:Nat} {t:TypeId} {p1 p2 p3:Option Addr} {n1 k1 n2 k2 n3 k3:Nat} (h:dA w v D) (hD:D.Ok) (hp:dA w (.agg #[.slice p1 n1 k1, .slice p2 n2 k2, .slice p3 n3 k3]) P) (hP:P.Ok) (hr:Row oV w b t (bL p1 n1 k1 p2 n2 k2 p3 n3 k3)) (hg:w.grownBy w' (some b)):dA w' v D:=by
 obtain ⟨vc,vn,va,rfl,h1,h2,h3⟩:=h;refine ⟨vc,vn,va,rfl,?_,?_,Km h3 (fun x _ _ _ e=>by cases e) hr hg⟩
 ·rcases h1 with hn | ⟨g,o,cap,rfl,hc,ha,hlt⟩
  ·exact .inl hn
  ·refine .inr ⟨g,o,cap,rfl,hc,fun i hi=>(ha i hi).grown hg hlt (fun e=> ?_),bO hlt hg.size⟩;injection e with e
   subst e;have:=ha i hi 0 (by show 0<4;omega);rcases JU hr _ _ this with h | h | h<;>cases h
 ·rcases h2 with hn | ⟨g,o,cap,rfl,hc,ha,hlt⟩
  ·exact .inl hn
  ·refine .inr ⟨g,o,cap,rfl,hc,fun i hi=> ?_,bO hlt hg.size⟩;obtain ⟨u,e1,e2⟩:=ha i hi;refine ⟨u,(nU (a:=⟨g,o+i,none⟩) (hg.block g hlt (fun e=> ?_))).trans e1,Km e2 (fun x _ _ _ e=>by cases e) hr hg⟩;injection e with e
   subst e;have hl:=hD.rw _ (pJ hi);have hc1:=hD.c1;have h0:0<(D.nx[i]).length:=by omega
   obtain ⟨wc,wn,wa,ew,q1,q2,q3⟩:=hp;injection ew with ew
   simp only [TU,Hg,G5] at ew;obtain ⟨rfl,rfl,rfl⟩:=ew;have e3:=JU hr _ _ e1;have hpc:=hP.c1;have hpn:=hP.n1;have hpa:=hP.ac;rcases e3 with rfl | rfl | rfl
   ·obtain ⟨bb,oo,x,rfl,hx⟩:=oL e2 h0;rcases q1 with ⟨_,_,e⟩ | ⟨b2,o2,c2,e,_,ha2,_⟩
    ·rw [e] at hpc;exact absurd hpc (by simp)
    ·injection e with e
     injection e with e
     injection e with ea eb
     subst ea eb;have:=ha2 0 (by omega) 0 (by show 0<4;omega);simp only [Ty,x8] at this;rw [hx] at this;cases this
   ·obtain ⟨bb,oo,x,rfl,hx⟩:=oL e2 h0;rcases q2 with ⟨_,_,e⟩ | ⟨b2,o2,c2,e,_,ha2,_⟩
    ·rw [e] at hpn;exact absurd hpn (by simp)
    ·injection e with e
     injection e with e
     injection e with ea eb
     subst ea eb;obtain ⟨u,hu1,hu2⟩:=ha2 0 (by omega);simp only [x8] at hu1;rw [hx] at hu1;injection hu1 with hu1
     subst hu1;rcases hu2 with ⟨_,e,_⟩ | ⟨_,_,_,e,_⟩<;>cases e
   ·obtain ⟨bb,oo,x,rfl,hx⟩:=oL e2 h0;rcases q3 with ⟨_,_,e⟩ | ⟨b2,o2,c2,e,_,ha2,_⟩
    ·rw [e] at hpa;simp at hpa;omega
    ·injection e with e
     injection e with e
     injection e with ea eb
     subst ea eb;have h03:0<P.ac.length:=by omega
     have:=ha2 0 h03;rw [bM h03] at this;simp only [x8] at this;rw [hx] at this;cases this
theorem agj (w:World) (vp vd:Value) (P D:DF) (hp:dA w vp P) (hd:dA w vd D) (hP:P.Ok):
  Calls Tryz.prog 191 #[vp,vd, .int .i64 0] w fun e w'=>∃v,e= .returned v∧fQ w' v (.ok P)∧Below w.heap.size w w':=by
 have HPO:=af hP;have HE:Hid (∀(w':World) u,dA w' u P→fQ w' (.tuple #[u, .int .i64 0]) (.ok P)):=af (fun w' u h=>⟨u,rfl,h⟩);clear hP;obtain ⟨p1,pF,p2,pX,p3,pI,rfl⟩:=hp.parts;obtain ⟨pE,Hp1⟩:∃n,Hid (P.cls.length=n):=⟨_,af rfl⟩
 obtain ⟨qh,Hp2⟩:∃n,Hid (P.nx.length=n):=⟨_,af rfl⟩
 obtain ⟨pY,Hp3⟩:∃n,Hid (P.ac.length=n):=⟨_,af rfl⟩
 rw [Hp1.out,Hp2.out,Hp3.out] at hp ⊢;obtain ⟨d1,dk1,d2,dk2,d3,dk3,rfl⟩:=hd.parts;obtain ⟨eZ,P9⟩:∃n,Hid (D.cls.length=n):=⟨_,af rfl⟩
 obtain ⟨eY,Pw⟩:∃n,Hid (D.nx.length=n):=⟨_,af rfl⟩
 obtain ⟨fe,Pe⟩:∃n,Hid (D.ac.length=n):=⟨_,af rfl⟩
 rw [P9.out,Pw.out,Pe.out] at hd ⊢;clear hd;have HP:=af hp;clear hp
 obtain ⟨W,hW,hB,rp,rd,ro⟩:∃W,(((w.alloc (.cells #[.slice p1 pE pF, .slice p2 qh pX, .slice p3 pY pI] 79)).alloc (.cells #[.slice d1 eZ dk1, .slice d2 eY dk2, .slice d3 fe dk3] 79)).alloc (.cells #[.slice none 0 0, .slice none 0 0, .slice none 0 0] 79))=W∧Below w.heap.size w W∧Row oV W w.heap.size 79 (bL p1 pE pF p2 qh pX p3 pY pI)∧Row oV W (w.heap.size+1) 79 (bL d1 eZ dk1 d2 eY dk2 d3 fe dk3)∧Row oV W (w.heap.size+2) 79 [on,on,on]:=by
  have s1:(w.alloc (.cells #[.slice p1 pE pF, .slice p2 qh pX, .slice p3 pY pI] 79)).heap.size=w.heap.size+1:=bR _ _;have s2:((w.alloc (.cells #[.slice p1 pE pF, .slice p2 qh pX, .slice p3 pY pI] 79)).alloc (.cells #[.slice d1 eZ dk1, .slice d2 eY dk2, .slice d3 fe dk3] 79)).heap.size=w.heap.size+2:=by rw [bR,s1]
  have r1:Row oV (w.alloc (.cells #[.slice p1 pE pF, .slice p2 qh pX, .slice p3 pY pI] 79)) w.heap.size 79 (bL p1 pE pF p2 qh pX p3 pY pI):=Row.new _ _ rfl;have r2:=Row.new (f:=oV) (w.alloc (.cells #[.slice p1 pE pF, .slice p2 qh pX, .slice p3 pY pI] 79)) (t:=79) (l:=bL d1 eZ dk1 d2 eY dk2 d3 fe dk3) (.cells #[.slice d1 eZ dk1, .slice d2 eY dk2, .slice d3 fe dk3] 79) rfl;have r3:=Row.new (f:=oV) ((w.alloc (.cells #[.slice p1 pE pF, .slice p2 qh pX, .slice p3 pY pI] 79)).alloc (.cells #[.slice d1 eZ dk1, .slice d2 eY dk2, .slice d3 fe dk3] 79)) (t:=79) (l:=[on,on,on]) (.cells #[.slice none 0 0, .slice none 0 0, .slice none 0 0] 79) rfl;rw [s1] at r2;rw [s2] at r3;exact ⟨_,rfl,(((au _ _).alloc (ah _) _).alloc (by rw [s1];omega) _).alloc (by rw [s2];omega) _,(r1.alloc _).alloc _,r2.alloc _,r3⟩
 go_enter Tryz.func191,Tryz.ntmps191;go_upto_region 1 with (fail);clear hW;have hpl:=rp.lt;have hol:=ro.lt;go_wp2_with fail;refine uT 1 ?_;refine ak (n:=0) ?_
 go_wp2_with (first
  | ((with_reducible refine aU (f:=oV) (l:=bL p1 pE pF p2 qh pX p3 pY pI) (C:= #[.slice p1 pE pF, .slice p2 qh pX, .slice p3 pY pI]) bQ (.tmp 3) ?_ ?_ w.heap.size 0 ?_ rp.at ?_ ?_);rfl;rfl;rfl;rfl)
  | ((with_reducible refine aK (f:=oV) (l:=[on,on,on]) (l':=bL p1 pE pF p2 qh pX p3 pY pI) (t:=79) (C:= #[.slice p1 pE pF, .slice p2 qh pX, .slice p3 pY pI]) bQ (.tmp 6) (.tmp 23) ?_ ?_ (w.heap.size+2) ?_ ?_ ?_ ro ?_ bF ?_);rfl;rfl;rfl;rfl;rfl;rfl;(intro WZ Fb vT XB)))
 refine fJ (v:= .tuple #[.agg #[.slice p1 pE pF, .slice p2 qh pX, .slice p3 pY pI], .int .i64 0]) (bG (f:=oV) (l:=bL p1 pE pF p2 qh pX p3 pY pI) (t:=7) rfl _ bQ (w.heap.size+2) 0 rfl Fb.at) rfl ?_;exact ⟨_,rfl,HE.out _ _ ((HP.out.below hB).avoid HPO.out ro vT),hB.grown vT hB.size (fun k e=>by injection e with e;omega)⟩
theorem afL (w:World) (vp vd:Value) (P D R:DF) (hp:dA w vp P) (hd:dA w vd D) (hP:P.V) (hD:D.V) (hR:P.cat D= .ok R) (Eu:R.Ok) (uP:iw w) (htl:1<w.heap.size):
  Calls Tryz.prog 191 #[vp,vd, .int .i64 1] w fun e w'=>∃v,e= .returned v∧fQ w' v (.ok R)∧Below w.heap.size w w':=by
 have HPO:=af hP;have Ie:=af hD;have tJ:=af Eu;have HR:=af hR;have HT:=af uP;have iL:=af htl;have HE:Hid (∀(w':World) u,dA w' u R→fQ w' (.tuple #[u, .int .i64 0]) (.ok R)):=af (fun w' u h=>⟨u,rfl,h⟩);clear hP hD Eu hR uP htl;obtain ⟨p1,pF,p2,pX,p3,pI,rfl⟩:=hp.parts;obtain ⟨pE,Hp1⟩:∃n,Hid (P.cls.length=n):=⟨_,af rfl⟩
 obtain ⟨qh,Hp2⟩:∃n,Hid (P.nx.length=n):=⟨_,af rfl⟩
 obtain ⟨pY,Hp3⟩:∃n,Hid (P.ac.length=n):=⟨_,af rfl⟩
 rw [Hp1.out,Hp2.out,Hp3.out] at hp ⊢;obtain ⟨d1,dk1,d2,dk2,d3,dk3,rfl⟩:=hd.parts;obtain ⟨eZ,P9⟩:∃n,Hid (D.cls.length=n):=⟨_,af rfl⟩
 obtain ⟨eY,Pw⟩:∃n,Hid (D.nx.length=n):=⟨_,af rfl⟩
 obtain ⟨fe,Pe⟩:∃n,Hid (D.ac.length=n):=⟨_,af rfl⟩
 rw [P9.out,Pw.out,Pe.out] at hd ⊢;have HP:=af hp;have HD:=af hd;clear hp hd
 obtain ⟨W,hW,hB,rp,rd,ro⟩:∃W,(((w.alloc (.cells #[.slice p1 pE pF, .slice p2 qh pX, .slice p3 pY pI] 79)).alloc (.cells #[.slice d1 eZ dk1, .slice d2 eY dk2, .slice d3 fe dk3] 79)).alloc (.cells #[.slice none 0 0, .slice none 0 0, .slice none 0 0] 79))=W∧Below w.heap.size w W∧Row oV W w.heap.size 79 (bL p1 pE pF p2 qh pX p3 pY pI)∧Row oV W (w.heap.size+1) 79 (bL d1 eZ dk1 d2 eY dk2 d3 fe dk3)∧Row oV W (w.heap.size+2) 79 [on,on,on]:=by
  have s1:(w.alloc (.cells #[.slice p1 pE pF, .slice p2 qh pX, .slice p3 pY pI] 79)).heap.size=w.heap.size+1:=bR _ _;have s2:((w.alloc (.cells #[.slice p1 pE pF, .slice p2 qh pX, .slice p3 pY pI] 79)).alloc (.cells #[.slice d1 eZ dk1, .slice d2 eY dk2, .slice d3 fe dk3] 79)).heap.size=w.heap.size+2:=by rw [bR,s1]
  have r1:Row oV (w.alloc (.cells #[.slice p1 pE pF, .slice p2 qh pX, .slice p3 pY pI] 79)) w.heap.size 79 (bL p1 pE pF p2 qh pX p3 pY pI):=Row.new _ _ rfl;have r2:=Row.new (f:=oV) (w.alloc (.cells #[.slice p1 pE pF, .slice p2 qh pX, .slice p3 pY pI] 79)) (t:=79) (l:=bL d1 eZ dk1 d2 eY dk2 d3 fe dk3) (.cells #[.slice d1 eZ dk1, .slice d2 eY dk2, .slice d3 fe dk3] 79) rfl;have r3:=Row.new (f:=oV) ((w.alloc (.cells #[.slice p1 pE pF, .slice p2 qh pX, .slice p3 pY pI] 79)).alloc (.cells #[.slice d1 eZ dk1, .slice d2 eY dk2, .slice d3 fe dk3] 79)) (t:=79) (l:=[on,on,on]) (.cells #[.slice none 0 0, .slice none 0 0, .slice none 0 0] 79) rfl;rw [s1] at r2;rw [s2] at r3;exact ⟨_,rfl,(((au _ _).alloc (ah _) _).alloc (by rw [s1];omega) _).alloc (by rw [s2];omega) _,(r1.alloc _).alloc _,r2.alloc _,r3⟩
 have NN:=af (Rb W _ _ P D (HP.out.below hB) (HD.out.below hB) HPO.out Ie.out (HT.out.below hB iL.out) (bO iL.out hB.size));rw [HR.out] at NN;go_enter Tryz.func191,Tryz.ntmps191;go_upto_region 1 with (fail);clear hW;have hpl:=rp.lt;have hol:=ro.lt;go_wp2_with fail;refine uT 2 ?_;refine ak (n:=1) ?_
 go_wp2_with (first
  | ((with_reducible refine aU (f:=oV) (l:=bL p1 pE pF p2 qh pX p3 pY pI) (C:= #[.slice p1 pE pF, .slice p2 qh pX, .slice p3 pY pI]) bQ (.tmp 3) ?_ ?_ w.heap.size 0 ?_ rp.at ?_ ?_);rfl;rfl;rfl;rfl)
  | ((with_reducible refine aU (f:=oV) (l:=bL d1 eZ dk1 d2 eY dk2 d3 fe dk3) (C:= #[.slice d1 eZ dk1, .slice d2 eY dk2, .slice d3 fe dk3]) bQ (.tmp 4) ?_ ?_ (w.heap.size+1) 0 ?_ rd.at ?_ ?_);rfl;rfl;rfl;rfl))
 refine NN.out.mono ?_;rintro e W2 ⟨v,rfl,⟨u,rfl,hu⟩,hB2⟩;obtain ⟨q1,Bu,q2,Bz,q3,AO,rfl⟩:=hu.parts;obtain ⟨AR,Hq1⟩:∃n,Hid (R.cls.length=n):=⟨_,af rfl⟩
 obtain ⟨Bt,Hq2⟩:∃n,Hid (R.nx.length=n):=⟨_,af rfl⟩
 obtain ⟨Bh,Hq3⟩:∃n,Hid (R.ac.length=n):=⟨_,af rfl⟩
 rw [Hq1.out,Hq2.out,Hq3.out] at hu ⊢;have rp2:=rp.below hB2 rp.lt;have ro2:=ro.below hB2 ro.lt;clear rp ro rd;go_wp2_with ((with_reducible refine aK (f:=oV) (l:=bL p1 pE pF p2 qh pX p3 pY pI) (l':=bL q1 AR Bu q2 Bt Bz q3 Bh AO) (t:=79) (C:= #[.slice q1 AR Bu, .slice q2 Bt Bz, .slice q3 Bh AO]) bQ (.tmp 3) (.tmp 16) ?_ ?_ w.heap.size ?_ ?_ ?_ rp2 ?_ bF ?_);rfl;rfl;rfl;rfl;rfl;rfl;(intro W3 rp3 hG3 hz3);(refine bN.back ?_));have hu3:=hu.adz tJ.out (HP.out.below (hB.trans (hB2.mono hB.size))) HPO.out.toOk rp2 hG3;have ro3:=ro2.grown hG3 (fun e=>by injection e with e;omega);have hB3:Below w.heap.size w W3:=(hB.trans (hB2.mono hB.size)).grown hG3 (aL hB.size hB2.size) (fun k e=>by injection e with e;omega);have ahB:=ro3.lt;clear hu rp2 ro2 hG3 hB2 hB hpl hol;refine bN.out ?_;go_wp2_with fail;refine ak (n:=0) ?_
 go_wp2_with (first
  | ((with_reducible refine aU (f:=oV) (l:=bL q1 AR Bu q2 Bt Bz q3 Bh AO) (C:= #[.slice q1 AR Bu, .slice q2 Bt Bz, .slice q3 Bh AO]) bQ (.tmp 3) ?_ ?_ w.heap.size 0 ?_ rp3.at ?_ ?_);rfl;rfl;rfl;rfl)
  | ((with_reducible refine aK (f:=oV) (l:=[on,on,on]) (l':=bL q1 AR Bu q2 Bt Bz q3 Bh AO) (t:=79) (C:= #[.slice q1 AR Bu, .slice q2 Bt Bz, .slice q3 Bh AO]) bQ (.tmp 6) (.tmp 23) ?_ ?_ (w.heap.size+2) ?_ ?_ ?_ ro3 ?_ bF ?_);rfl;rfl;rfl;rfl;rfl;rfl;(intro WZ Fb vT XB)))
 refine fJ (v:= .tuple #[.agg #[.slice q1 AR Bu, .slice q2 Bt Bz, .slice q3 Bh AO], .int .i64 0]) (bG (f:=oV) (l:=bL q1 AR Bu q2 Bt Bz q3 Bh AO) (t:=7) rfl _ bQ (w.heap.size+2) 0 rfl Fb.at) rfl ?_;exact ⟨_,rfl,HE.out _ _ (hu3.avoid tJ.out ro3 vT),hB3.grown vT hB3.size (fun k e=>by injection e with e;omega)⟩
end
section
open Go Go.RowKit Mem
structure nT (w X:World) (tb N:Nat) (cell:List Nat) (nx:List (List Nat)) (ac:List Bool) (pn:Option Addr) (cn:Nat) (pa:Option Addr) (ca:Nat) (us:List OC):Prop where
 fH:Below tb w X
 out:Row oV X tb 79 [on,on,on]
 tab:Row oV X (tb+1) 166 (bC ⟨cell,256,[],[]⟩ ⟨.slice pn us.length cn,rfl⟩ ⟨.slice pa ac.length ca,rfl⟩)
 next:Mem.Own oV X (tb+2) 92 (.slice pn us.length cn) us
 rows:F2 (aei X (tb+2) N) us nx
 acc:Mem.Own Value.bool X (tb+2) 4 (.slice pa ac.length ca) ac
 sz:tb+2≤X.heap.size
 nN:N≤X.heap.size
section
variable {w X X':World} {tb N:Nat} {cell:List Nat} {nx:List (List Nat)} {ac:List Bool} {pn:Option Addr} {cn:Nat} {pa:Option Addr} {ca:Nat} {us:List OC}
theorem nT.grown (h:nT w X tb N cell nx ac pn cn pa ca us) {row:Option Nat} (hg:X.grownBy X' row) (hr:∀g,row=some g→N≤g∧tb+2≤g∧(Value.slice pn us.length cn).ownBlock≠some g∧(Value.slice pa ac.length ca).ownBlock≠some g):nT w X' tb N cell nx ac pn cn pa ca us:=by
 have hz:=h.sz;refine ⟨h.fH.grown hg (by omega) (fun k e=>by have:=(hr k e).2.1;omega),h.out.grown hg (fun e=>by have:=(hr _ e.symm).2.1;omega),h.tab.grown hg (fun e=>by have:=(hr _ e.symm).2.1;omega),h.next.kept hg (fun g hg' e=>(hr g e).2.2.1 hg'),?_,h.acc.kept hg (fun g hg' e=>(hr g e).2.2.2 hg'),aL h.sz hg.size,aL h.nN hg.size⟩;refine bE ?_ h.rows;rintro u r ⟨g,e1,e2,e3,e4,e6⟩;exact ⟨g,e1,e2.grown hg (fun e=>by have:=(hr g e.symm).1;omega),e3,e4,e6⟩
theorem nT.under (h:nT w X tb N cell nx ac pn cn pa ca us) (hb:Below X.heap.size X X'):nT w X' tb N cell nx ac pn cn pa ca us:=h.grown (Mem.bf hb none) (fun _ e=>by cases e)
theorem nT.alloc (h:nT w X tb N cell nx ac pn cn pa ca us) (o:Obj):nT w (X.alloc o) tb N cell nx ac pn cn pa ca us:=h.grown (TN X o none) (fun _ e=>by cases e)
theorem nT.mono (h:nT w X tb N cell nx ac pn cn pa ca us) {M:Nat} (hM:N≤M) (hX:M≤X.heap.size):nT w X tb M cell nx ac pn cn pa ca us:=
 ⟨h.fH,h.out,h.tab,h.next,bE (fun _ _ ⟨g,e1,e2,e3,e4,e6⟩=>⟨g,e1,e2,e3,by omega,e6⟩) h.rows,h.acc,h.sz,hX⟩
theorem nT.row (h:nT w X tb N cell nx ac pn cn pa ca us) (g i:Nat) {l:List Nat} (hr:Row nV X g 3 l) (v:Value) (hg:N≤g) (hB:tb+2≤g):nT w (X.setCell ⟨g,i,none⟩ v) tb N cell nx ac pn cn pa ca us:=
 h.grown (aI X g i v) (fun k e=>by
  injection e with e
  subst e
  exact ⟨hg,hB,fun e=>lD h.next hr (by decide) _ e rfl,fun e=>lD h.acc hr (by decide) _ e rfl⟩)
theorem nT.CG (h:nT w X tb N cell nx ac pn cn pa ca us) {g:Nat} {r:List Nat} (hr:Row nV X g 3 r) (hgB:tb+2≤g) (hr2:r.length≤256) (hcl:cell.length=256) {o:Obj} {p:Option Addr} {c:Nat} {u:OC} (hu:u.1= .slice (some ⟨g,0,none⟩) r.length r.length)
  (hO:Mem.Own oV X' (tb+2) 92 (.slice p (us++[u]).length c) (us++[u])) (hG:(X.alloc o).grownBy X' (Value.slice pn us.length cn).ownBlock) {M:Nat} (hM:N≤M) (hgM:g<M) (hMX:M≤X'.heap.size):
  nT w (X'.setCell ⟨tb+1,257,none⟩ (.slice p (us++[u]).length c)) tb M cell (nx++[r]) ac p c pa ca (us++[u]):=by
 have h':=h.alloc o;have hz:=h'.sz;have hlt:=fun g e=>(h.next.lt g e).1;have hne:∀b,b<tb+2→some b≠(Value.slice pn us.length cn).ownBlock:=fun b hb e=>by have:=hlt b e.symm;omega
 have hgs:=aI X' (tb+1) 257 (.slice p (us++[u]).length c);have qC:∀b,b≠tb+1→some b≠some (tb+1):=fun b hb e=>hb (by injection e);have d1:=(h'.tab.grown hG (hne _ (by omega))).set 257 ⟨.slice p (us++[u]).length c,rfl⟩
 have e1:(bC ⟨cell,256,[],[]⟩ ⟨.slice pn us.length cn,rfl⟩ ⟨.slice pa ac.length ca,rfl⟩).set 257 ⟨.slice p (us++[u]).length c,rfl⟩=bC ⟨cell,256,[],[]⟩ ⟨.slice p (us++[u]).length c,rfl⟩ ⟨.slice pa ac.length ca,rfl⟩:=by
  unfold bC;rw [H9 _ _ (by rw [fD];show cell.length≤257;omega),fD];show _++List.set _ (257 - cell.length) _=_;rw [hcl];rfl
 rw [e1] at d1;have Jm:tb+2≤X'.heap.size:=aL h'.sz hG.size;refine ⟨(h'.fH.grown hG (by omega) (fun k e=>by have:=hlt k e;omega)).grown hgs (by omega) (fun k e=>by injection e with e;omega),(h'.out.grown hG (hne _ (by omega))).grown hgs (qC _ (by omega)),d1,hO.kept hgs (fun k hk e=>qC k (by have:=(hO.lt k hk).1;omega) e.symm),?_,(h'.acc.kept hG (fun k hk e=>jc h.next h.acc (by decide) k e hk)).kept hgs (fun k hk e=>qC k (by have:=(h.acc.lt k hk).1;omega) e.symm),aL Jm hgs.size,aL hMX hgs.size⟩;refine CR (bE ?_ h.rows) ⟨g,hu,((hr.alloc o).grown hG (fun e=>lD h.next hr (by decide) _ e.symm rfl)).grown hgs (qC _ (by omega)),hgB,hgM,hr2⟩;rintro u' r' ⟨k,e1,e2,e3,e4,e6⟩;exact ⟨k,e1,((e2.alloc o).grown hG (fun e=>lD h.next e2 (by decide) _ e.symm rfl)).grown hgs (qC _ (by omega)),e3,by omega,e6⟩
theorem nT.Dn (h:nT w X tb N cell nx ac pn cn pa ca us) (hcl:cell.length=256) {o:Obj} {b:Bool} {p:Option Addr} {c:Nat}
  (hO:Mem.Own Value.bool X' (tb+2) 4 (.slice p (ac++[b]).length c) (ac++[b])) (hG:(X.alloc o).grownBy X' (Value.slice pa ac.length ca).ownBlock):
  nT w (X'.setCell ⟨tb+1,258,none⟩ (.slice p (ac++[b]).length c)) tb N cell nx (ac++[b]) pn cn p c us:=by
 have h':=h.alloc o;have hz:=h'.sz;have hlt:=fun g e=>(h.acc.lt g e).1;have hne:∀b,b<tb+2→some b≠(Value.slice pa ac.length ca).ownBlock:=fun b hb e=>by have:=hlt b e.symm;omega
 have hgs:=aI X' (tb+1) 258 (.slice p (ac++[b]).length c);have qC:∀b,b≠tb+1→some b≠some (tb+1):=fun b hb e=>hb (by injection e);have d1:=(h'.tab.grown hG (hne _ (by omega))).set 258 ⟨.slice p (ac++[b]).length c,rfl⟩
 have e1:(bC ⟨cell,256,[],[]⟩ ⟨.slice pn us.length cn,rfl⟩ ⟨.slice pa ac.length ca,rfl⟩).set 258 ⟨.slice p (ac++[b]).length c,rfl⟩=bC ⟨cell,256,[],[]⟩ ⟨.slice pn us.length cn,rfl⟩ ⟨.slice p (ac++[b]).length c,rfl⟩:=by
  unfold bC;rw [H9 _ _ (by rw [fD];show cell.length≤258;omega),fD];show _++List.set _ (258 - cell.length) _=_;rw [hcl];rfl
 rw [e1] at d1;have Jm:tb+2≤X'.heap.size:=aL h'.sz hG.size;refine ⟨(h'.fH.grown hG (by omega) (fun k e=>by have:=hlt k e;omega)).grown hgs (by omega) (fun k e=>by injection e with e;omega),(h'.out.grown hG (hne _ (by omega))).grown hgs (qC _ (by omega)),d1,(h'.next.kept hG (fun k hk e=>jc h.acc h.next (by decide) k e hk)).kept hgs (fun k hk e=>qC k (by have:=(h.next.lt k hk).1;omega) e.symm),?_,hO.kept hgs (fun k hk e=>qC k (by have:=(hO.lt k hk).1;omega) e.symm),aL Jm hgs.size,aL (aL h'.nN hG.size) hgs.size⟩;refine bE ?_ h.rows;rintro u' r' ⟨k,e1,e2,e3,e4,e6⟩;exact ⟨k,e1,((e2.alloc o).grown hG (fun e=>lD h.acc e2 (by decide) _ e.symm rfl)).grown hgs (qC _ (by omega)),e3,e4,e6⟩
end
end
section
open Go Go.RowKit Mem
def uX (k:Nat):List Nat:=List.range k++List.replicate (256 - k) 0
theorem yO (k:Nat) (h:k≤256):(uX k).length=256:=by unfold uX;simp;omega
theorem abf (k:Nat) (h:k<256):(uX k).set k k=uX (k+1):=by
 unfold uX;rw [show 256 - k=(256 - (k+1))+1 by omega,qc0,H9 _ _ (by simp),List.length_range,Fu,yh,K7,ze];rfl
abbrev ones:List Nat:=List.replicate 256 1
def Ip (k:Nat):List (List Nat):=List.replicate k ones
def wE (k:Nat):List Bool:=(List.range k).map (·==0)
theorem XE (k:Nat):Ip k++[ones]=Ip (k+1):=by unfold Ip;rw [qcS]
theorem Xi (k:Nat):wE k++[k==0]=wE (k+1):=by unfold wE;rw [K7,xm];rfl
theorem zM:eU.Ok:=by
 refine ⟨by simp [eU],by simp [eU],?_,by simp [eU],by simp [eU],by simp [eU],?_,?_⟩
 ·intro x hx;exact Ij.1 hx
 ·intro r hr;simp only [eU,nA,Bp,BJ,or_self] at hr;subst hr;simp [eU]
 ·intro r hr t ht;simp only [eU,nA,Bp,BJ,or_self] at hr;subst hr;rw [(XI.1 ht).2];simp [eU]
theorem adG (w:World) (p:Option Addr) (c:Nat):
  Calls Tryz.prog 135 #[.slice p 0 c] w fun e w'=>∃v,e= .returned v∧fQ w' v (.ok eU.canon)∧Below w.heap.size w w':=by
 have b0:Below w.heap.size w (w.alloc (.cells #[.slice none 0 0, .slice none 0 0, .slice none 0 0] 79)):=(au _ _).alloc (ah _) _;have r0:Row oV (w.alloc (.cells #[.slice none 0 0, .slice none 0 0, .slice none 0 0] 79)) w.heap.size 79 [on,on,on]:=Row.new _ _ rfl;have s0:(w.alloc (.cells #[.slice none 0 0, .slice none 0 0, .slice none 0 0] 79)).heap.size=w.heap.size+1:=bR _ _;go_enter Tryz.func135,Tryz.ntmps135;go_upto_region 4 with (fail);generalize (w.alloc (.cells #[.slice none 0 0, .slice none 0 0, .slice none 0 0] 79))=W at b0 r0 s0 ⊢;have hbu:(Tryz.zeroCells166.setIfInBounds 256 (.int .i64 256))=((bC ⟨uX 0,256,[],[]⟩ on on).map oV).toArray:=by kernel_rfl
 obtain ⟨C0,tq⟩:∃C,Hid (C=((bC ⟨uX 0,256,[],[]⟩ on on).map oV).toArray):=⟨_,af rfl⟩
 rw [← tq.out] at hbu;have hC9:C0.size=259:=by rw [tq.out,AZ,fD];exact aW _ _ (yO 0 (by omega))
 have rz:Row oV (W.alloc (.cells gu 166)) (w.heap.size+1) 166 (bC ⟨List.replicate 256 0,0,[],[]⟩ on on):=by
  have h:=Row.new (f:=oV) W (t:=166) (l:=bC ⟨List.replicate 256 0,0,[],[]⟩ on on) (.cells gu 166) rfl
  rwa [s0] at h
 have b1:=b0.alloc (by rw [s0];omega) (.cells gu 166);have r1:=r0.alloc (.cells gu 166);have s1:(W.alloc (.cells gu 166)).heap.size=w.heap.size+2:=by rw [bR,s0]
 have x9:bU Tryz.prog 166 (bC ⟨uX 0,256,[],[]⟩ on on).length:=by rw [aW _ _ (yO 0 (by omega))];exact jd
 have Ro:(bC ⟨uX 0,256,[],[]⟩ on on).length=(bC ⟨List.replicate 256 0,0,[],[]⟩ on on).length:=by rw [aW _ _ (yO 0 (by omega)),aW _ _ (by simp)]
 go_upto_region 5 with (first
  | ((with_reducible refine gI (t:=166) gu uE ?_ ?_ (w.heap.size+1) ?_ ?_);rfl;rfl;exact s0)
  | ((with_reducible refine aK (f:=oV) (l:=bC ⟨List.replicate 256 0,0,[],[]⟩ on on) (l':=bC ⟨uX 0,256,[],[]⟩ on on) (t:=166) (C:=C0) x9 (.tmp 5) (.tmp 15) ?_ ?_ (w.heap.size+1) ?_ tq.out ?_ rz Ro bF ?_);rfl;rfl;rfl;(first | rfl | exact congrArg Value.agg hbu);(intro W6 hs6 dw gP)))
 have hW0:nT w W6 w.heap.size (w.heap.size+2) (uX 0) [] [] none 0 none 0 []:=
  ⟨b1.grown dw (by rw [s1];omega) (fun k e=>by injection e with e;omega),r1.grown dw (by simp),hs6,Own.nil _ _ _, .nil,Own.nil _ _ _,by rw [gP,s1];omega,by rw [gP,s1];omega⟩
 clear b0 r0 s0 hbu hC9 rz b1 r1 s1 x9 Ro hs6 dw gP;obtain ⟨tb,dF⟩:∃tb,Hid (w.heap.size=tb):=⟨_,af rfl⟩
 rw [dF.out] at hW0 ⊢;generalize (Value.agg C0)=vC0;go_wp2_with fail
 go_loopw [16] (fun s16 wr=>∃k:Nat,k≤256∧s16= .int .i64 k∧nT w wr tb (tb+2) (uX k) [] [] none 0 none 0 []) (fun s16 _=>256 - (intOf s16).toNat)
 case atStart=>exact ⟨0,by omega,rfl,hW0⟩
 case round=>
  clear hW0;obtain ⟨k,hk,rfl,hW⟩:=hrel;by_cases hlt:k<256
  ·have hq:(k:Int)<256:=by omega
   have ck:wr.cell? ⟨tb+1,k,none⟩=some (.int .i64 ((uX k).getD k 0:Nat)):=by
    rw [hW.tab.cell?,zG _ _ (by rw [show (TB.mk (uX k) 256 [] []).cell=uX k from rfl,yO k hk];exact hlt)];rfl
   have fk:=hW.tab.frozen k;have hg:=aI wr (tb+1) k (.int .i64 (k:Int))
   have ht:Row oV (wr.setCell ⟨tb+1,k,none⟩ (.int .i64 (k:Int))) (tb+1) 166 (bC ⟨uX (k+1),256,[],[]⟩ on on):=by
    have h:=hW.tab.set k (oi (k:Int));rw [R5 _ _ _ _ _ (by rw [show (TB.mk (uX k) 256 [] []).cell=uX k from rfl,yO k hk];exact hlt)] at h;rw [← abf k hlt];exact h
   have hz:=hW.sz
   have hW1:nT w (wr.setCell ⟨tb+1,k,none⟩ (.int .i64 (k:Int))) tb (tb+2) (uX (k+1)) [] [] none 0 none 0 []:=
    ⟨hW.fH.grown hg (by omega) (fun j e=>by injection e with e;omega),hW.out.grown hg (fun e=>by injection e with e;omega),ht,Own.nil _ _ _, .nil,Own.nil _ _ _,aL hz hg.size,aL hz hg.size⟩
   clear hW hg ht hz;go_wp2_with fail
   go_roundw
   case rel=>exact ⟨k+1,by omega,by go_num,hW1⟩
   case measure=>simp [intOf];omega
  ·obtain rfl:k=256:=by omega
   have aek:uX 256=List.range 256:=by unfold uX;simp
   rw [aek] at hW;have BB:Hid ((List.range 256).length=256):=af (by simp);obtain ⟨ids,ae0⟩:∃l,Hid (List.range 256=l):=⟨_,af rfl⟩
   rw [ae0.out] at hW BB;clear aek;go_wp2_with fail
   go_loopw [26] (fun U7 wq=>∃(k:Nat) (pn:Option Addr) (cn:Nat) (pa:Option Addr) (ca:Nat) (us:List OC) (N:Nat),k≤2∧U7= .int .i64 k∧nT w wq tb N ids (Ip k) (wE k) pn cn pa ca us) (fun U7 _=>2 - (intOf U7).toNat)
   case atStart=>exact ⟨0,none,0,none,0,[],tb+2,by omega,rfl,hW⟩
   case round=>
    clear hW;obtain ⟨k,pn,cn,pa,ca,us,N,hk,rfl,hW⟩:=hrel;by_cases hlt:k<2
    ·have hq:(k:Int)<2:=by omega
     obtain ⟨MB,nM⟩:∃C,Hid (C=((List.replicate 256 0).map nV).toArray):=⟨_,af rfl⟩
     have hmk:∀w:World,(Instr.makeSlice 92 (.int .i64 256) (.int .i64 256)).run Tryz.prog w= .ok (.slice (some ⟨w.heap.size,0,none⟩) 256 256) (w.alloc (.cells MB 3)):=fun w=>by rw [nM.out];exact tZ w 256 (by omega)
     have BV:Row nV (wr.alloc (.cells MB 3)) wr.heap.size 3 (List.replicate 256 0):=Row.new _ _ (by rw [nM.out]);have hX1:=(hW.alloc (.cells MB 3)).mono (M:=wr.heap.size) hW.nN (by rw [bR];omega);have hgB:=hW.sz;have hg1:wr.heap.size+1≤(wr.alloc (.cells MB 3)).heap.size:=by rw [bR];exact ah _
     go_upto_region 15 with (fail);obtain ⟨g1,Hg1⟩:∃g,Hid (wr.heap.size=g):=⟨_,af rfl⟩
     rw [Hg1.out] at BV hX1 hgB hg1 ⊢;generalize (wr.alloc (.cells MB 3))=W1 at BV hX1 hg1 ⊢;clear hW hmk nM;go_wp2_with fail
     go_loopw [32] (fun s32 wq=>∃b:Nat,b≤256∧s32= .int .i64 b∧nT w wq tb g1 ids (Ip k) (wE k) pn cn pa ca us∧Row nV wq g1 3 (List.replicate b 1++List.replicate (256 - b) 0)∧g1+1≤wq.heap.size) (fun s32 _=>256 - (intOf s32).toNat)
     case atStart=>exact ⟨0,by omega,rfl,hX1,by simpa using BV,hg1⟩
     case round=>
      clear BV hX1 hg1;clear W1;obtain ⟨b,hb,rfl,hX,hR,hg1⟩:=hrel;by_cases hbl:b<256
      ·have hbq:(b:Int)<256:=by omega
       have hrl:b<(List.replicate b 1++List.replicate (256 - b) 0).length:=by simp;omega
       have cb:=fu hR b hrl;have fb:=hR.frozen b;have hR2:=hR.set b 1;rw [zo (by simp) hbl,show List.replicate b 1++[1]=List.replicate (b+1) 1 from (qcS ..).symm] at hR2;have hX2:=hX.row g1 b hR (.int .i64 1) (ah _) hgB;have hg2:=aL hg1 (aI wr g1 b (.int .i64 1)).size;have Fq:Row nV (wr.setCell ⟨g1,b,none⟩ (.int .i64 1)) g1 3 (List.replicate (b+1) 1++List.replicate (256 - (b+1)) 0):=hR2;clear hX hR hg1 hrl hR2;go_wp2_with fail
       go_roundw
       case rel=>exact ⟨b+1,by omega,by go_num,hX2,Fq,hg2⟩
       case measure=>simp [intOf];omega
      ·obtain rfl:b=256:=by omega
       rw [Fu,qcH,Cm] at hR;have rV:us.length=k:=by rw [l7 hX.rows];simp [Ip]
       have hal:(wE k).length=k:=by simp [wE]
       have c1B:wr.cell? ⟨tb+1,257,none⟩=some (.slice pn us.length cn):=by rw [hX.tab.cell?,show 257=256+1 from rfl,kK _ _ BB.out];rfl
       have f1B:=hX.tab.frozen 257;have uu:=hX.sz;have hO3:=hX.next;obtain ⟨y,Hy⟩:∃y:OC,Hid (y.1= .slice (some ⟨g1,0,none⟩) 256 256):=⟨⟨.slice (some ⟨g1,0,none⟩) 256 256,rfl⟩,af rfl⟩
       have Hyo:Hid (Value.slice (some ⟨g1,0,none⟩) 256 256=oV y):=af Hy.out.symm;obtain ⟨vI,CF⟩:∃l,Hid (us++[y]=l):=⟨_,af rfl⟩
       have Uf:=af (hX.alloc (.cells #[.slice (some ⟨g1,0,none⟩) 256 256] 92)).tab;have UU:Hid (some (tb+1)≠(Value.slice pn us.length cn).ownBlock):=af (fun e=>by have:=(hO3.lt _ e.symm).1;omega);have HX:=af hX;have HR:=af hR;have hL1:Hid ((us.length+1) * 24≤140737488355328):=af (by omega);have hL2:Hid (us.length+1≤140737488355328):=af (by omega);have Il:=af rV;have YE:=af hal;have hkn:¬(k:Int)<0:=by omega
       clear hX hR rV hal;go_upto_region 22 with (at_builtin;(with_reducible refine eG Tx (.tmp 53) (.tmp 55) ?_ ?_ bF ?_ hO3 y _ ?_ _ ?_ hL1.out hL2.out uu vI CF.out ?_);rfl;rfl;rfl;(exact Hyo.out);rfl;(intro p8 c8 W8 mQ jC iC);(have JJ:=Uf.out.grown iC UU.out);(have SE:W8.cell? ⟨tb+1,257,none⟩=some (.slice pn us.length cn):=by rw [JJ.cell?,show 257=256+1 from rfl,kK _ _ BB.out];rfl);(have QJ:=JJ.frozen 257))
       have oh:nT w (W8.setCell ⟨tb+1,257,none⟩ (.slice p8 vI.length c8)) tb W8.heap.size ids (Ip (k+1)) (wE k) p8 c8 pa ca vI:=by
        rw [← CF.out] at mQ ⊢;have hgs:=iC.size;rw [bR] at hgs;have hNN:=HX.out.nN;rw [← XE];exact HX.out.CG HR.out hgB (by simp) BB.out (by simpa using Hy.out) mQ iC (by omega) (by omega) (ah _)
       generalize (W8.setCell ⟨tb+1,257,none⟩ (.slice p8 vI.length c8))=ni at oh ⊢;obtain ⟨N2,o9⟩:∃N2,Hid (W8.heap.size=N2):=⟨_,af rfl⟩
       rw [o9.out] at oh;clear JJ SE QJ mQ iC jC hO3 c1B f1B uu;obtain ⟨z,Hz⟩:∃z,Hid ((k==0)=z):=⟨_,af rfl⟩
       have hz:((k:Int)==0)=z:=by rw [← Hz.out,AL];simp
       have c2B:ni.cell? ⟨tb+1,258,none⟩=some (.slice pa (wE k).length ca):=by rw [oh.tab.cell?,show 258=256+2 from rfl,kK _ _ BB.out];rfl
       have DY:=oh.acc;have uu:tb+2≤ni.heap.size:=oh.sz;obtain ⟨Ef,yz⟩:∃l,Hid (wE k++[z]=l):=⟨_,af rfl⟩
       have HAS:Hid (Ef=wE (k+1)):=af (by rw [← yz.out,← Hz.out,Xi]);obtain ⟨al,agK⟩:∃l,Hid ((wE k).length=l):=⟨_,af rfl⟩
       have ahq:al=k:=by rw [← agK.out];exact YE.out
       have HA1:Hid (((wE k).length+1) * 1≤140737488355328):=af (by rw [YE.out];omega);have HA2:Hid ((wE k).length+1≤140737488355328):=af (by rw [YE.out];omega);have VO:=af (oh.alloc (.cells #[.bool z] 4)).tab;have HAB:Hid (some (tb+1)≠(Value.slice pa (wE k).length ca).ownBlock):=af (fun e=>by have:=(DY.lt _ e.symm).1;omega);have aax:=af oh;clear oh Uf UU HX;go_wp2_with (at_builtin;(with_reducible refine eG Qc (.tmp 59) (.tmp 63) ?_ ?_ OJ ?_ DY z _ ?_ _ ?_ HA1.out HA2.out uu Ef yz.out ?_);rfl;rfl;rfl;rfl;rfl;(intro p9 c9 W9 M0 G8 dB);(have Ej:=VO.out.grown dB HAB.out);(have abZ:W9.cell? ⟨tb+1,258,none⟩=some (.slice pa (wE k).length ca):=by rw [Ej.cell?,show 258=256+2 from rfl,kK _ _ BB.out];rfl);(have abW:=Ej.frozen 258))
       have acz:nT w (W9.setCell ⟨tb+1,258,none⟩ (.slice p9 Ef.length c9)) tb N2 ids (Ip (k+1)) (wE (k+1)) p8 c8 p9 c9 vI:=by
        rw [← HAS.out];rw [← yz.out] at M0 ⊢;exact aax.out.Dn BB.out M0 dB
       clear Ej abZ abW M0 G8 dB c2B DY
       go_roundw
       case rel=>exact ⟨_,_,_,_,⟨k+1,by omega,by go_num,p8,c8,p9,c9,vI,N2,acz⟩,rfl,rfl,rfl,rfl⟩
       case measure=>simp [intOf];omega
    ·obtain rfl:k=2:=by omega
     have hq:¬((2:Nat):Int)<2:=by omega
     have hut:us.length=2:=by rw [l7 hW.rows];simp [Ip]
     have htab:=hW.tab;have hout:=hW.out;have hWT:eU=⟨ids,256,Ip 2,wE 2⟩:=by rw [← ae0.out];rfl
     obtain ⟨L3,Dz⟩:∃l:List OC,Hid (l=bC ⟨ids,256,[],[]⟩ ⟨.slice pn us.length cn,rfl⟩ ⟨.slice pa (wE 2).length ca,rfl⟩):=⟨_,af rfl⟩
     rw [← Dz.out] at htab;obtain ⟨C3,R6⟩:∃C,Hid (C=(L3.map oV).toArray):=⟨_,af rfl⟩
     have hL3:L3.length=259:=by rw [Dz.out];exact aW _ _ BB.out
     have hA3:bU Tryz.prog 166 L3.length:=by rw [hL3];exact jd
     have HTA:Hid (kL wr C3 eU):=af (by
      rw [hWT]
      refine ⟨⟨.slice pn us.length cn,rfl⟩,⟨.slice pa (wE 2).length ca,rfl⟩,by rw [R6.out,Dz.out];rfl,?_,hW.acc.rd,BB.out⟩
      rcases hW.next.rd with ⟨p0,e0,e1⟩ | ⟨b1,o1,c1,e1,e2,e3,e4⟩
      ·rw [e1] at hut;cases hut
      ·have hlw:(Ip 2).length=us.length:=by rw [hut];rfl
       refine .inr ⟨b1,o1,c1,by rw [hlw];exact e1,by rw [hlw];exact e2,fun k hk=> ?_,e4⟩
       have C8:k<us.length:=by rw [← hlw];exact hk
       obtain ⟨g,u1,u2,u3,_,u6⟩:=Iz hW.rows k C8 hk
       refine ⟨us[k].1,?_,?_⟩
       ·have h:=e3 k C8
        rw [bM C8] at h
        exact h
       ·rw [u1]
        exact (mJ (base:=0) u2 (Mg _) (by unfold maxLen;show (Ip 2)[k].length≤_;omega)).rd)
     have hbel:Below tb w wr:=hW.fH;have hsz:=hW.sz;have hol:=hout.lt;clear hW hut hWT;go_wp2_with ((with_reducible refine zL htab.at hA3 R6.out ?_));refine (IV wr C3 eU HTA.out zM).mono ?_;rintro e Wc ⟨v,rfl,hv,jR⟩;obtain ⟨D,HD⟩:∃D,Hid (eU.canon=D):=⟨_,af rfl⟩
     have Ie:Hid D.Ok:=af (by rw [← HD.out];exact zM.canon.1);rw [HD.out] at hv;obtain ⟨q1,j1,q2,j2,q3,j3,rfl⟩:=hv.parts;have HU:=af hv;obtain ⟨m1,Hm1⟩:∃n,Hid (D.cls.length=n):=⟨_,af rfl⟩
     obtain ⟨m2,Hm2⟩:∃n,Hid (D.nx.length=n):=⟨_,af rfl⟩
     obtain ⟨m3,Hm3⟩:∃n,Hid (D.ac.length=n):=⟨_,af rfl⟩
     rw [Hm1.out,Hm2.out,Hm3.out] at HU ⊢;have hRk:=hout.below jR hol;have KJ:Below tb w Wc:=hbel.trans (jR.mono (by omega));clear hv jR hout htab;go_wp2_with ((with_reducible refine zS (l':=bL q1 m1 j1 q2 m2 j2 q3 m3 j3) hRk bQ ?_);(intro W9 iO dB tY));have dV:Below tb w W9:=KJ.grown dB (by have:=hRk.lt;omega) (fun k e=>by injection e with e;omega);refine fJ (v:= .tuple #[.agg #[.slice q1 m1 j1, .slice q2 m2 j2, .slice q3 m3 j3], .int .i64 0]) (bG (f:=oV) (l:=bL q1 m1 j1 q2 m2 j2 q3 m3 j3) (t:=3) rfl _ bQ tb 0 rfl iO.at) rfl ?_;refine ⟨_,rfl,?_,by rw [dF.out];exact dV⟩;rw [HD.out];exact ⟨_,rfl,HU.out.avoid Ie.out hRk dB⟩
def P6 (D:DF) (low:Int) (P:DF):Prop:=∀(w:World) (vp vd:Value),dA w vp eU.canon→dA w vd D→iw w→1<w.heap.size→
  Calls Tryz.prog 191 #[vp,vd, .int .i64 low] w fun e w'=>∃v,e= .returned v∧fQ w' v (.ok P)∧Below w.heap.size w w'
theorem VT (D:DF):P6 D 0 eU.canon:=fun w vp vd hp hd _ _=>agj w vp vd _ D hp hd zM.canon.1
theorem ady (D R:DF) (hD:D.V) (hW:eU.canon.V) (hR:eU.canon.cat D= .ok R) (hO:R.Ok):P6 D 1 R:=fun w vp vd hp hd hT hl=>afL w vp vd _ D R hp hd hW hD hR hO hT hl
def RpS (w W:World) (l:List OC):Prop:=Below w.heap.size w W∧Row oV W w.heap.size 79 l∧Row oV W (w.heap.size+1) 79 [on,on,on]∧w.heap.size+2≤W.heap.size
theorem RpS.up {w W X:World} {l:List OC} (h:RpS w W l) (hB:Below W.heap.size W X):RpS w X l:=
 ⟨h.1.trans (hB.mono h.1.size),h.2.1.below hB h.2.1.lt,h.2.2.1.below hB h.2.2.1.lt,aL h.2.2.2 hB.size⟩
theorem agG (w:World) (vd:Value) (D P S R:DF) (low:Int) (hd:dA w vd D) (hD:D.V) (Qt:P6 D low P) (hP:P.V) (hS:D.star= .ok S) (hSV:S.V) (hR:P.cat S= .ok R) (Eu:R.Ok) (hlow:((-1:Int)==low)=false) (uP:iw w) (htl:1<w.heap.size):
  Calls Tryz.prog 141 #[vd, .int .i64 low, .int .i64 (-1)] w fun e w'=>∃v,e= .returned v∧fQ w' v (.ok R)∧Below w.heap.size w w':=by
 have HDV:=af hD;have HPW:=af Qt;have HPV:=af hP;have HS:=af hS;have HSV:=af hSV;have HR:=af hR;have tJ:=af Eu;have HT:=af uP;have iL:=af htl;have HE:Hid (∀(w':World) u,dA w' u R→fQ w' (.tuple #[u, .int .i64 0]) (.ok R)):=af (fun w' u h=>⟨u,rfl,h⟩);obtain ⟨Wd,HWd⟩:∃X,Hid (eU.canon=X):=⟨_,af rfl⟩
 clear hD Qt hP hS hSV hR Eu uP htl;obtain ⟨d1,dk1,d2,dk2,d3,dk3,rfl⟩:=hd.parts;obtain ⟨eZ,P9⟩:∃n,Hid (D.cls.length=n):=⟨_,af rfl⟩
 obtain ⟨eY,Pw⟩:∃n,Hid (D.nx.length=n):=⟨_,af rfl⟩
 obtain ⟨fe,Pe⟩:∃n,Hid (D.ac.length=n):=⟨_,af rfl⟩
 rw [P9.out,Pw.out,Pe.out] at hd ⊢;have HD:=af hd;clear hd
 obtain ⟨W,hW,hS⟩:∃W,((w.alloc (.cells #[.slice d1 eZ dk1, .slice d2 eY dk2, .slice d3 fe dk3] 79)).alloc (.cells #[.slice none 0 0, .slice none 0 0, .slice none 0 0] 79))=W∧RpS w W (bL d1 eZ dk1 d2 eY dk2 d3 fe dk3):=by
  have s1:(w.alloc (.cells #[.slice d1 eZ dk1, .slice d2 eY dk2, .slice d3 fe dk3] 79)).heap.size=w.heap.size+1:=bR _ _;have r1:Row oV (w.alloc (.cells #[.slice d1 eZ dk1, .slice d2 eY dk2, .slice d3 fe dk3] 79)) w.heap.size 79 (bL d1 eZ dk1 d2 eY dk2 d3 fe dk3):=Row.new _ _ rfl;have r2:=Row.new (f:=oV) (w.alloc (.cells #[.slice d1 eZ dk1, .slice d2 eY dk2, .slice d3 fe dk3] 79)) (t:=79) (l:=[on,on,on]) (.cells #[.slice none 0 0, .slice none 0 0, .slice none 0 0] 79) rfl;rw [s1] at r2;exact ⟨_,rfl,((au _ _).alloc (ah _) _).alloc (by rw [s1];omega) _,r1.alloc _,r2,by rw [bR,s1];omega⟩
 go_enter Tryz.func141,Tryz.ntmps141;go_upto_region 1 with (fail);clear hW;go_wp2_with fail;refine (adG W none 0).mono ?_;rw [HWd.out];rintro e W1 ⟨v,rfl,⟨u,rfl,ha⟩,hB1⟩;replace hS:=hS.up hB1;clear hB1;obtain ⟨a1,Xo,a2,ZU,a3,XQ,rfl⟩:=ha.parts;obtain ⟨Yw,Ha1⟩:∃n,Hid (Wd.cls.length=n):=⟨_,af rfl⟩
 obtain ⟨YD,Ha2⟩:∃n,Hid (Wd.nx.length=n):=⟨_,af rfl⟩
 obtain ⟨Yr,Ha3⟩:∃n,Hid (Wd.ac.length=n):=⟨_,af rfl⟩
 rw [Ha1.out,Ha2.out,Ha3.out] at ha ⊢;go_upto_region 4 with (fail);have hal:Below W1.heap.size W1 (W1.alloc (.cells #[.slice a1 Yw Xo, .slice a2 YD ZU, .slice a3 Yr XQ] 79)):=(au _ _).alloc (ah _) _;have ra:Row oV (W1.alloc (.cells #[.slice a1 Yw Xo, .slice a2 YD ZU, .slice a3 Yr XQ] 79)) W1.heap.size 79 (bL a1 Yw Xo a2 YD ZU a3 Yr XQ):=Row.new _ _ rfl;replace hS:=hS.up hal;replace ha:=ha.below hal;clear hal;generalize (W1.alloc (.cells #[.slice a1 Yw Xo, .slice a2 YD ZU, .slice a3 Yr XQ] 79))=W2 at hS ra ha ⊢;generalize W1.heap.size=ba at ra ⊢;have hrd:=hS.2.1;have Hpw:=af (HPW.out W2 _ _ (HWd.out▸ha) (HD.out.below hS.1) (HT.out.below hS.1 iL.out) (bO iL.out hS.1.size))
 go_wp2_with (first
  | ((with_reducible refine aU (f:=oV) (l:=bL a1 Yw Xo a2 YD ZU a3 Yr XQ) (C:= #[.slice a1 Yw Xo, .slice a2 YD ZU, .slice a3 Yr XQ]) bQ (.tmp 8) ?_ ?_ ba 0 ?_ ra.at ?_ ?_);rfl;rfl;rfl;rfl)
  | ((with_reducible refine aU (f:=oV) (l:=bL d1 eZ dk1 d2 eY dk2 d3 fe dk3) (C:= #[.slice d1 eZ dk1, .slice d2 eY dk2, .slice d3 fe dk3]) bQ (.tmp 3) ?_ ?_ w.heap.size 0 ?_ hrd.at ?_ ?_);rfl;rfl;rfl;rfl))
 refine Hpw.out.mono ?_;rintro e W3 ⟨v,rfl,⟨u,rfl,hq⟩,hB3⟩;replace hS:=hS.up hB3;clear hB3 ra hrd Hpw ha;obtain ⟨q1,Bu,q2,Bz,q3,AO,rfl⟩:=hq.parts;obtain ⟨AR,Hq1⟩:∃n,Hid (P.cls.length=n):=⟨_,af rfl⟩
 obtain ⟨Bt,Hq2⟩:∃n,Hid (P.nx.length=n):=⟨_,af rfl⟩
 obtain ⟨Bh,Hq3⟩:∃n,Hid (P.ac.length=n):=⟨_,af rfl⟩
 rw [Hq1.out,Hq2.out,Hq3.out] at hq ⊢;go_upto_region 5 with (fail);have hal:Below W3.heap.size W3 (W3.alloc (.cells #[.slice q1 AR Bu, .slice q2 Bt Bz, .slice q3 Bh AO] 79)):=(au _ _).alloc (ah _) _;have rq:Row oV (W3.alloc (.cells #[.slice q1 AR Bu, .slice q2 Bt Bz, .slice q3 Bh AO] 79)) W3.heap.size 79 (bL q1 AR Bu q2 Bt Bz q3 Bh AO):=Row.new _ _ rfl;replace hS:=hS.up hal;replace hq:=hq.below hal;clear hal;generalize (W3.alloc (.cells #[.slice q1 AR Bu, .slice q2 Bt Bz, .slice q3 Bh AO] 79))=W4 at hS rq hq ⊢;generalize W3.heap.size=bq at rq ⊢;have hrd:=hS.2.1;have YC:=af (afo W4 _ D (HD.out.below hS.1) HDV.out (HT.out.below hS.1 iL.out) (bO iL.out hS.1.size));rw [HS.out] at YC;go_wp2_with ((with_reducible refine aU (f:=oV) (l:=bL d1 eZ dk1 d2 eY dk2 d3 fe dk3) (C:= #[.slice d1 eZ dk1, .slice d2 eY dk2, .slice d3 fe dk3]) bQ (.tmp 3) ?_ ?_ w.heap.size 0 ?_ hrd.at ?_ ?_);rfl;rfl;rfl;rfl);refine YC.out.mono ?_;rintro e W5 ⟨v,rfl,⟨u,rfl,hs⟩,zU⟩;replace hS:=hS.up zU;replace hq:=hq.below zU;replace rq:=rq.below zU rq.lt;clear zU hrd YC;obtain ⟨s1,XF,s2,WU,s3,XT,rfl⟩:=hs.parts;obtain ⟨Zo,Hs1⟩:∃n,Hid (S.cls.length=n):=⟨_,af rfl⟩
 obtain ⟨Zl,Hs2⟩:∃n,Hid (S.nx.length=n):=⟨_,af rfl⟩
 obtain ⟨YM,Hs3⟩:∃n,Hid (S.ac.length=n):=⟨_,af rfl⟩
 rw [Hs1.out,Hs2.out,Hs3.out] at hs ⊢;go_upto_region 9 with (fail);have hal:Below W5.heap.size W5 (W5.alloc (.cells #[.slice s1 Zo XF, .slice s2 Zl WU, .slice s3 YM XT] 79)):=(au _ _).alloc (ah _) _;have rs:Row oV (W5.alloc (.cells #[.slice s1 Zo XF, .slice s2 Zl WU, .slice s3 YM XT] 79)) W5.heap.size 79 (bL s1 Zo XF s2 Zl WU s3 YM XT):=Row.new _ _ rfl;replace hS:=hS.up hal;replace hq:=hq.below hal;replace hs:=hs.below hal;replace rq:=rq.below hal rq.lt;clear hal;generalize (W5.alloc (.cells #[.slice s1 Zo XF, .slice s2 Zl WU, .slice s3 YM XT] 79))=W6 at hS rq hq rs hs ⊢;generalize W5.heap.size=bs at rs ⊢;have NN:=af (Rb W6 _ _ P S hq hs HPV.out HSV.out (HT.out.below hS.1 iL.out) (bO iL.out hS.1.size));rw [HR.out] at NN
 go_wp2_with (first
  | ((with_reducible refine aU (f:=oV) (l:=bL q1 AR Bu q2 Bt Bz q3 Bh AO) (C:= #[.slice q1 AR Bu, .slice q2 Bt Bz, .slice q3 Bh AO]) bQ (.tmp 10) ?_ ?_ bq 0 ?_ rq.at ?_ ?_);rfl;rfl;rfl;rfl)
  | ((with_reducible refine aU (f:=oV) (l:=bL s1 Zo XF s2 Zl WU s3 YM XT) (C:= #[.slice s1 Zo XF, .slice s2 Zl WU, .slice s3 YM XT]) bQ (.tmp 11) ?_ ?_ bs 0 ?_ rs.at ?_ ?_);rfl;rfl;rfl;rfl))
 refine NN.out.mono ?_;rintro e W7 ⟨v,rfl,⟨u,rfl,hr⟩,gU⟩;replace hS:=hS.up gU;clear gU rq rs hq hs NN;obtain ⟨r1,ja,r2,iW,r3,iX,rfl⟩:=hr.parts;obtain ⟨iD,PX⟩:∃n,Hid (R.cls.length=n):=⟨_,af rfl⟩
 obtain ⟨gF,Py⟩:∃n,Hid (R.nx.length=n):=⟨_,af rfl⟩
 obtain ⟨iF,Ow⟩:∃n,Hid (R.ac.length=n):=⟨_,af rfl⟩
 rw [PX.out,Py.out,Ow.out] at hr ⊢;have yl:=hS.2.2.1;go_wp2_with ((with_reducible refine aK (f:=oV) (l:=[on,on,on]) (l':=bL r1 iD ja r2 gF iW r3 iF iX) (t:=79) (C:= #[.slice r1 iD ja, .slice r2 gF iW, .slice r3 iF iX]) bQ (.tmp 6) (.tmp 52) ?_ ?_ (w.heap.size+1) ?_ ?_ ?_ yl ?_ bF ?_);rfl;rfl;rfl;rfl;rfl;rfl;(intro WZ Fb vT XB));refine fJ (v:= .tuple #[.agg #[.slice r1 iD ja, .slice r2 gF iW, .slice r3 iF iX], .int .i64 0]) (bG (f:=oV) (l:=bL r1 iD ja r2 gF iW r3 iF iX) (t:=7) rfl _ bQ (w.heap.size+1) 0 rfl Fb.at) rfl ?_;exact ⟨_,rfl,HE.out _ _ (hr.avoid tJ.out yl vT),hS.1.grown vT hS.1.size (fun k e=>by injection e with e;omega)⟩
end
end Go.Proofs.YtncnfncglacheaaGreatDoor
