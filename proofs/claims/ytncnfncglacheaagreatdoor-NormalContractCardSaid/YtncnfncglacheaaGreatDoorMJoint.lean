/- Part of a proof. -/
import Derived.Test.YtncnfncglacheaaGreatDoorMCanP
set_option linter.all false
set_option maxRecDepth 100000
set_option maxHeartbeats 64000000
namespace Go.Proofs.YtncnfncglacheaaGreatDoor
section
open Go Go.RowKit Mem
def wT (l:List Nat):Array Value:=(l.map nV).toArray
theorem OP:bR Tryz.prog 152 256:=⟨fun _=>by kernel_rfl,fun _=>by kernel_rfl⟩
def mE:Array Value:=wT (List.replicate 256 0)
theorem BQ (w:World):(zeroValue 152).run Tryz.prog w= .ok (.agg mE) w:=by kernel_rfl
theorem H7 {w:World} {N:Nat} (h:w.heap.size=N):Row nV (w.alloc (.cells mE 152)) N 152 (List.replicate 256 0):=by
 subst h;exact Row.new _ _ rfl
structure CF (w wr:World) (tb:Nat) (Ta Tb:TB) (xO xV vb1 zB:OC) (p:Option Addr) (c:Nat) (st:JS):Prop where
 ta:qG wr tb Ta xO xV
 tc:qG wr (tb+1) Tb vb1 zB
 out:Row nV wr (tb+2) 152 (List.replicate 256 0)
 cell:Row nV wr (tb+3) 152 st.cell
 map:fA TM Gd Tryz.prog 206 3 wr (tb+4) st.ks
 bs:Mem.Own nV wr (tb+5) 3 (.slice p st.bs.length c) st.bs
 fB:Below tb w wr
 sz:tb+5≤wr.heap.size
section
variable {w wr w':World} {tb:Nat} {Ta Tb:TB} {xO xV vb1 zB:OC} {p:Option Addr} {c:Nat} {st:JS}
theorem CF.grown (h:CF w wr tb Ta Tb xO xV vb1 zB p c st) {row:Option Nat} (hg:wr.grownBy w' row) (hr:∀g,row=some g→tb+5≤g∧(Value.slice p st.bs.length c).ownBlock≠some g):CF w w' tb Ta Tb xO xV vb1 zB p c st:=by
 have hz:=h.sz;exact ⟨⟨h.ta.row.grown hg (fun e=>by have:=(hr _ e.symm).1;omega),h.ta.cl⟩,⟨h.tc.row.grown hg (fun e=>by have:=(hr _ e.symm).1;omega),h.tc.cl⟩,h.out.grown hg (fun e=>by have:=(hr _ e.symm).1;omega),h.cell.grown hg (fun e=>by have:=(hr _ e.symm).1;omega),h.map.kept hg (fun e=>by have:=(hr _ e.symm).1;omega),h.bs.kept hg (fun g hg' e=>(hr g e).2 hg'),h.fB.grown hg (by omega) (fun k e=>by have:=(hr k e).1;omega),aJ h.sz hg.size⟩
theorem CF.under (h:CF w wr tb Ta Tb xO xV vb1 zB p c st) (hb:Below wr.heap.size wr w'):CF w w' tb Ta Tb xO xV vb1 zB p c st:=h.grown (Mem.aY hb none) (fun _ e=>by cases e)
theorem CF.setCell (h:CF w wr tb Ta Tb xO xV vb1 zB p c st) (x q:Nat):CF w (wr.setCell ⟨tb+3,x,none⟩ (nV q)) tb Ta Tb xO xV vb1 zB p c {st with cell:=st.cell.set x q}:=by
 have hg:=aB wr (tb+3) x (nV q);have hz:=h.sz;exact ⟨⟨h.ta.row.grown hg (fun e=>by injection e with e;omega),h.ta.cl⟩,⟨h.tc.row.grown hg (fun e=>by injection e with e;omega),h.tc.cl⟩,h.out.grown hg (fun e=>by injection e with e;omega),h.cell.set x q,h.map.kept hg (fun e=>by injection e with e;omega),h.bs.kept hg (fun g hg' e=>by have:=(h.bs.lt g hg').1;injection e with e;omega),h.fB.grown hg (by omega) (fun k e=>by injection e with e;omega),aJ h.sz hg.size⟩
end
theorem UK (w:World) (Ca Cb:Array Value) (Ta Tb:TB) (hA:kz w Ca Ta) (hB:kz w Cb Tb) (ha:∀x∈Ta.cell,x<65536) (hb:∀x∈Tb.cell,x<65536):
  Calls Tryz.prog 180 #[.agg Ca, .agg Cb] w fun e w'=>∃p c,e= .returned (.tuple #[.agg (wT (Br Ta Tb).cell), .slice p (Br Ta Tb).bs.length c])∧Mem.Own nV w' w.heap.size 3 (.slice p (Br Ta Tb).bs.length c) (Br Ta Tb).bs∧Below w.heap.size w w':=by
 obtain ⟨xO,xV,hCa,_,_,h3a⟩:=hA;obtain ⟨vb1,zB,hCb,_,_,h3b⟩:=hB;have HA:=Lib.hid ha;have HB:=Lib.hid hb;clear ha hb;have r0:qG (w.alloc (.cells Ca 166)) w.heap.size Ta xO xV:=⟨Row.new _ _ (by rw [hCa]),h3a⟩
 have r1:Row oV ((w.alloc (.cells Ca 166)).alloc (.cells Cb 166)) (w.heap.size+1) 166 (bf Tb vb1 zB):=by
  have h:=Row.new (f:=oV) (w.alloc (.cells Ca 166)) (t:=166) (l:=bf Tb vb1 zB) (.cells Cb 166) (by rw [hCb]);rw [bO] at h;exact h
 have s1:((w.alloc (.cells Ca 166)).alloc (.cells Cb 166)).heap.size=w.heap.size+2:=by simp
 have b1:Below w.heap.size w ((w.alloc (.cells Ca 166)).alloc (.cells Cb 166)):=((ak _ _).alloc (af _) _).alloc (by simp) _;have r0':=r0.row.alloc (.cells Cb 166);clear hCa hCb r0;have H1:=Lib.hid s1;clear s1;go_enter Tryz.func180,Tryz.ntmps180;go_upto_region 1 with ((with_reducible refine gy (t:=152) mE BQ ?_ ?_ (w.heap.size+2) ?_ ?_);rfl;rfl;exact H1.out);generalize ((w.alloc (.cells Ca 166)).alloc (.cells Cb 166))=W at r0' r1 b1 H1 ⊢;have ro:=H7 H1.out;have ra:=r0'.alloc (.cells mE 152);have rb:=r1.alloc (.cells mE 152);have bb:=b1.alloc (by have:=H1.out;omega) (.cells mE 152);have H2:Hid ((W.alloc (.cells mE 152)).heap.size=w.heap.size+3):=Lib.hid (by rw [bO,H1.out]);generalize (W.alloc (.cells mE 152))=W2 at ro ra rb bb H2 ⊢;clear r0' r1 b1 H1;clear W;have hmm:= @run_makeMap Tryz.prog;go_upto_region 4 with ((with_reducible refine gy (t:=152) mE BQ ?_ ?_ (w.heap.size+3) ?_ ?_);rfl;rfl;exact H2.out);have rc:=H7 H2.out;have ro':=ro.alloc (.cells mE 152);have ra':=ra.alloc (.cells mE 152);have rb':=rb.alloc (.cells mE 152);have bb':=bb.alloc (by have:=H2.out;omega) (.cells mE 152);have H3:Hid ((W2.alloc (.cells mE 152)).heap.size=w.heap.size+4):=Lib.hid (by rw [bO,H2.out]);generalize (W2.alloc (.cells mE 152))=W3 at rc ro' ra' rb' bb' H3 ⊢;rw [show W2.heap.size+1=w.heap.size+4 by rw [H2.out]];clear ro ra rb bb H2;clear W2
 have rm:fA TM Gd Tryz.prog 206 3 (W3.alloc (.map #[] 0)) (w.heap.size+4) []:=by
  have h:fA TM Gd Tryz.prog 206 3 (W3.alloc (.map #[] 0)) W3.heap.size []:=fA.made W3
  rwa [H3.out] at h
 obtain ⟨tb,dx⟩:∃tb,Hid (w.heap.size=tb):=⟨_,Lib.hid rfl⟩
 have hJ:CF w (W3.alloc (.map #[] 0)) w.heap.size Ta Tb xO xV vb1 zB none 0 (iq Ta.cell Tb.cell 0):=
  ⟨⟨ra'.alloc _,h3a⟩,⟨rb'.alloc _,h3b⟩,ro'.alloc _,rc.alloc _,rm,Own.nil _ _ _,bb'.alloc (by have:=H3.out;omega) _,by rw [bO,H3.out];omega⟩
 generalize (W3.alloc (.map #[] 0))=W4 at hJ ⊢;rw [dx.out] at hJ ⊢;clear rc ro' ra' rb' bb' rm hmm H3;clear W3;go_wp2_with fail
 go_loopw [7,14] (fun s7 TF wr=>∃(k:Nat) (st:JS) (p:Option Addr) (c:Nat),k≤256∧TF= .int .i64 k∧Hid (iq Ta.cell Tb.cell k=st)∧s7= .slice p st.bs.length c∧CF w wr tb Ta Tb xO xV vb1 zB p c st) (fun _ TF _=>256 - (intOf TF).toNat)
 case atStart=>exact ⟨0,_,none,0,by omega,rfl,Lib.hid rfl,rfl,hJ⟩
 case round=>
  clear hJ;obtain ⟨k,st,p,c,hk,rfl,HS,rfl,hJ⟩:=hrel;have hok:=jQ Ta.cell Tb.cell k hk;rw [HS.out] at hok;have jq:=Lib.hid hok;clear hok;by_cases hlt:k<256
  ·have hq:(k:Int)<256:=by omega
   have c1:=hJ.ta.c k hlt;have c2:=hJ.tc.c k hlt;have ha:Ta.cell.getD k 0<65536:=HA.out _ (aK _ _ _ (by rw [hJ.ta.cl];exact hlt));have hb:Tb.cell.getD k 0<65536:=HB.out _ (aK _ _ _ (by rw [hJ.tc.cl];exact hlt));have HS1:Hid (iq Ta.cell Tb.cell (k+1)=pX Ta.cell Tb.cell st k):=Lib.hid (by rw [iq,HS.out]);have HST:Hid (pX Ta.cell Tb.cell st k=if (Ta.cell.getD k 0,Tb.cell.getD k 0)∈st.ks then {st with cell:=st.cell.set k (st.ks.idxOf (Ta.cell.getD k 0,Tb.cell.getD k 0))} else ⟨st.ks++[(Ta.cell.getD k 0,Tb.cell.getD k 0)],st.bs++[k],st.cell.set k st.ks.length⟩):=Lib.hid rfl;obtain ⟨x,Hx⟩:∃x,Hid (Ta.cell.getD k 0=x):=⟨_,Lib.hid rfl⟩
   obtain ⟨y,Hy⟩:∃x,Hid (Tb.cell.getD k 0=x):=⟨_,Lib.hid rfl⟩
   have hJa:=hJ.under ((ak _ _).alloc (af _) (.cells #[.int .i64 0, .int .i64 0] 206));have d1:=hJa.ta.c k hlt;have d2:=hJa.tc.c k hlt;rw [Hx.out] at c1 d1 ha HST;rw [Hy.out] at c2 d2 hb HST;have HJ:=Lib.hid hJ;have hrs:=hJ.sz;obtain ⟨kb,vL⟩:∃n,Hid (wr.heap.size=n):=⟨_,Lib.hid rfl⟩
   go_upto_region 7 with (fail);go_wp2_with fail;go_region;have vF:Below wr.heap.size wr (wr.alloc (.cells #[.int .i64 (x:Int), .int .i64 (y:Int)] 206)).drew:=((ak _ _).alloc (af _) _).drew;have hRk:Row oV (wr.alloc (.cells #[.int .i64 (x:Int), .int .i64 (y:Int)] 206)).drew wr.heap.size 206 [oi (x:Int),oi (y:Int)]:=(Row.new wr (.cells #[.int .i64 (x:Int), .int .i64 (y:Int)] 206) rfl).drew;have sP:=HJ.out.under vF;generalize (wr.alloc (.cells #[.int .i64 (x:Int), .int .i64 (y:Int)] 206)).drew=W1 at vF hRk sP ⊢;rw [vL.out] at vF hRk hrs ⊢;clear hJa d1 d2 c1 c2 hJ;have e0:W1.cell? ⟨kb,0,none⟩=some (.int .i64 (x:Int)):=by rw [hRk.cell?];rfl
   have e1:W1.cell? ⟨kb,1,none⟩=some (.int .i64 (y:Int)):=by rw [hRk.cell?];rfl
   have Nf:Hid (TM (x,y)):=Lib.hid ⟨ha,hb⟩;have qh:Hid (Go.keyOf Tryz.prog 206 (.agg #[.int .i64 (x:Int), .int .i64 (y:Int)])=some (Gd (x,y))):=Lib.hid (acu (x,y) ⟨ha,hb⟩);have hz:∀w:World,(zeroValue 3).run Tryz.prog w= .ok (.int .i64 0) w:=fun w=>by kernel_rfl
   have GQ:=Lib.hid jq.out.bl;have hle:=jq.out.le;have hcl:k<st.cell.length:=by rw [jq.out.cl];exact hlt
   clear HS ha hb;have hmp:=sP.map;by_cases hm:(x,y)∈st.ks
   ·rw [if_pos hm] at HST;obtain ⟨q,Hq⟩:∃q,Hid (@List.idxOf _ instBEqOfDecidableEq (x,y) st.ks=q):=⟨_,Lib.hid rfl⟩
    rw [← Jf,Hq.out] at HST;have HM:=Lib.hid hm;clear hm;have c3:=eU sP.cell k hcl;have f3:=sP.cell.frozen k;have hJ2:=sP.setCell k q;have HJ2:Hid (CF w (W1.setCell ⟨tb+3,k,none⟩ (.int .i64 (q:Int))) tb Ta Tb xO xV vb1 zB p c (pX Ta.cell Tb.cell st k)∧(pX Ta.cell Tb.cell st k).bs.length=st.bs.length):=Lib.hid (by rw [HST.out];exact ⟨hJ2,rfl⟩);clear sP hJ2 vF hRk;go_wp2_with (at_lookup;(with_reducible refine oI hmp ?_ (.tmp 27) (.tmp 28) ?_ kP Tryz.underlying207 Tryz.underlying3 (hz _) ?_ (x,y) Nf.out HM.out q Hq.out _ ?_ qh.out ?_);rfl;rfl;rfl;rfl)
    go_roundw
    case rel=>exact ⟨k+1,_,p,c,by omega,by go_num,HS1,by rw [HJ2.out.2],HJ2.out.1⟩
    case measure=>simp [intOf];omega
   ·rw [if_neg hm] at HST;have HM:=Lib.hid hm;clear hm;have hkl:st.ks.length<1000000000:=by rw [← GQ.out];omega
    have hlen:(st.bs.length+1) * 8≤140737488355328:=by omega
    have yt:st.bs.length+1≤140737488355328:=by omega
    have Hlen:=Lib.hid hlen;have aeE:=Lib.hid yt;have agJ:kb≤W1.heap.size:=by rw [← vL.out];exact vF.size
    clear vF hle hlen yt
    go_wp2_with (first
     | (at_lookup;(with_reducible refine mX hmp ?_ (.tmp 27) (.tmp 28) ?_ kP Tryz.underlying207 Tryz.underlying3 (hz _) ?_ (x,y) Nf.out HM.out _ ?_ qh.out ?_);rfl;rfl;rfl;rfl)
     | (at_mapUpdate;(with_reducible refine C8 hmp ?_ (.tmp 36) (.tmp 37) (.tmp 38) ?_ kP Tryz.underlying207 Tryz.underlying3 Xp WU ?_ (x,y) Nf.out HM.out hkl _ ?_ qh.out ?_ ?_);rfl;rfl;rfl;rfl;(exact congrArg (fun n:Nat=>Value.int .i64 (n:Int)) GQ.out);(intro W7 uu gB);(have wY:=sP.bs.kept gB (fun g hg e=>by have:=(sP.bs.lt g hg).1;injection e with e;omega));(have hs7:tb+5≤W7.heap.size:=aJ sP.sz gB.size);(have Vw:=sP.cell.grown gB (fun e=>by injection e with e;omega)))
     | (at_builtin;(with_reducible refine fq D6 (.tmp 39) (.tmp 41) ?_ ?_ tL ?_ wY k _ ?_ _ ?_ Hlen.out aeE.out hs7 (st.bs++[k]) ?_ ?_);rfl;rfl;rfl;rfl;rfl;rfl;(intro p8 c8 W8 mP jf gW);(have G7:=(Vw.alloc (.cells #[.int .i64 (k:Int)] 3)).grown gW (fun e=>by have:=(wY.lt _ e.symm).1;omega));(have c3:=eU G7 k hcl);(have f3:=G7.frozen k)))
    have hne:∀b,b<tb+5→some b≠(Value.slice p st.bs.length c).ownBlock:=fun b hb e=>by have:=(wY.lt b e.symm).1;omega
    have vS:=sP.sz
    have HJ2:Hid (CF w (W8.setCell ⟨tb+3,k,none⟩ (.int .i64 (st.bs.length:Int))) tb Ta Tb xO xV vb1 zB p8 c8 (pX Ta.cell Tb.cell st k)∧(pX Ta.cell Tb.cell st k).bs.length=st.bs.length+1):=Lib.hid (by
     rw [HST.out]
     refine ⟨?_,by simp⟩
     have g1:W7.grownBy W8 (Value.slice p st.bs.length c).ownBlock:=⟨gW.os,gW.tape,gW.output,aJ (by rw [bO];omega) gW.size,fun b hb hn=>(gW.block b (by rw [bO];omega) hn).trans (o5 _ _ _ hb)⟩
     have h8:CF w W8 tb Ta Tb xO xV vb1 zB p8 c8 ⟨st.ks++[(x,y)],st.bs++[k],st.cell⟩:=by
      refine ⟨⟨(sP.ta.row.grown gB (fun e=>by injection e with e;omega)).grown g1 (hne _ (by omega)),sP.ta.cl⟩,⟨(sP.tc.row.grown gB (fun e=>by injection e with e;omega)).grown g1 (hne _ (by omega)),sP.tc.cl⟩,(sP.out.grown gB (fun e=>by injection e with e;omega)).grown g1 (hne _ (by omega)),G7,uu.kept g1 (hne _ (by omega)),mP,(sP.fB.grown gB (by omega) (fun b e=>by injection e with e;omega)).grown g1 (by omega) (fun b e=>by have:=(wY.lt b e).1;omega),aJ hs7 g1.size⟩
     have h9:=h8.setCell k st.ks.length
     rw [GQ.out]
     exact h9)
    clear sP wY mP jf gW uu gB Vw G7 hs7 hne
    go_roundw
    case rel=>exact ⟨k+1,_,p8,c8,by omega,by go_num,HS1,by rw [HJ2.out.2],HJ2.out.1⟩
    case measure=>simp [intOf];omega
  ·obtain rfl:k=256:=by omega
   have HE:Hid (Br Ta Tb=st):=Lib.hid HS.out;have hout:=hJ.out;have hcell:=hJ.cell;have HJ:=Lib.hid hJ;obtain ⟨cl,qH⟩:∃l,Hid (st.cell=l):=⟨_,Lib.hid rfl⟩
   have hcl:cl.length=256:=by rw [← qH.out];exact jq.out.cl
   have hA2:bR Tryz.prog 152 cl.length:=by rw [hcl];exact OP
   obtain ⟨CA,Ep⟩:∃C,Hid (C=(cl.map nV).toArray):=⟨_,Lib.hid rfl⟩
   obtain ⟨zl,Hzl⟩:∃l,Hid (List.replicate 256 0=l):=⟨_,Lib.hid rfl⟩
   have hzl:cl.length=zl.length:=by rw [hcl,← Hzl.out];simp
   rw [qH.out] at hcell;rw [Hzl.out] at hout;have ag2:=Lib.hid hcl;clear hJ hcl
   go_wp2_with (first
    | ((with_reducible refine zL hcell.at hA2 Ep.out ?_))
    | ((with_reducible refine aF (f:=nV) (l:=zl) (l':=cl) (t:=152) (C:=CA) hA2 (.tmp 4) (.tmp 47) ?_ ?_ (tb+2) ?_ Ep.out ?_ hout hzl tL ?_);rfl;rfl;rfl;rfl;(intro W9 iH dw sN)))
   have dO:Below tb w W9:=HJ.out.fB.grown dw (by have:=HJ.out.sz;omega) (fun k e=>by injection e with e;omega);refine bodyPost_ret (v:= .tuple #[.agg (cl.map nV).toArray, .slice p st.bs.length c]) (bD (f:=nV) (l:=cl) (t:=5) rfl _ hA2 (tb+2) 0 rfl iH.at) rfl ?_;refine ⟨p,c,by rw [HE.out,qH.out];rfl,?_,by rw [dx.out];exact dO⟩;rw [HE.out,dx.out];exact (HJ.out.bs.kept dw (fun g hg e=>by have:=(HJ.out.bs.lt g hg).1;injection e with e;omega)).mono (by omega)
end
section
open Go Go.RowKit Mem
theorem aev:Bu Tryz.prog 341 286 3 24:=Bu.mk' (z:= .agg #[.int .i64 0, .int .i64 0, .int .u64 0]) Tryz.underlying341 (by kernel_rfl) rfl
theorem lC:bR Tryz.prog 286 3:=⟨fun _=>by kernel_rfl,fun _=>by kernel_rfl⟩
section
variable {α:Type} [DecidableEq α] {ok:α→Prop} {enc:α→Lit} {P:Program} {K E T:TypeId} {w:World} {b:Nat} {ks:List α}
variable {ops:Array Oper} {rest:List Oper} {o:Oper} {a:Act} {Q:Exit→Act→World→Prop}
theorem abg (h:fA ok enc P K E w b ks) (hg:o.guard=none) (m x v:Operand) (hop:o.op=Op.insert T m x v) (KK:Maps.Keyed P K) (ht:P.underlying T=some (.map K E)) (he:P.underlying E=some (.int .i64))
  (hinj:∀a b,ok a→ok b→enc a=enc b→a=b) (hkl:∀a,WideAt.IsKeyLit (enc a)) (hm:a.eval m= .map (some b)) (y:α) (hy:ok y) (hn:y∉ks) (hl:ks.length<1000000000) (key:Value) (hx:a.eval x=key) (hkey:keyOf P K key=some (enc y)) (hv:a.eval v= .int .i64 (ks.length:Nat))
  (hk:∀w',fA ok enc P K E w' b (ks++[y])→w.grownBy w' (some b)→wpList P ops Q rest (a.put o.dst undef) w'):wpList P ops Q (o::rest) a w:=by
 obtain ⟨D,h1,h2⟩:=h;refine wpList_plain hg fun K' hK'=> ?_;obtain ⟨w',hrun,r1,r2⟩:=h1.update KK ht (by unfold maxLen;omega) hkey (plainElem_int he (WalkArith.wf_i64 (n:=(ks.length:Nat)) (by omega)));unfold Oper.wp;simp [execOp,hop,hm,hx,hv,hrun,Result.andThen];exact hK' _ _ (hk w' ⟨_,by rw [eH];exact r1,h2.put hinj hkl hy hn⟩ r2)
end
theorem Xc {α:Type} {K:Nat} {enc:α→List OC} (w:World) {N base:Nat} {e:TypeId} (hN:w.heap.size=N) (hb:base≤N) (hk:∀x,(enc x).length=K) (x:α) {C:Array Value} (hC:C=((enc x).map oV).toArray):aP K enc (w.alloc (.cells C e)) base e (.slice (some ⟨N,0,none⟩) 1 1) [x]:=by
 subst hN hC;exact ⟨by simp [hk], .inr ⟨w.heap.size,1,_,rfl,hb,heap_alloc_new w _,af _,by unfold maxLen;show 1≤_;omega,by simp [hk],by simp only [Lg,List.flatMap_nil,D8,Un,Az];rw [pM (by rw [fe,hk];exact af _)]⟩⟩
def aea (X:World) (B N:Nat) (u:OC) (r:List Nat):Prop:=∃g,u.1= .slice (some ⟨g,0,none⟩) r.length r.length∧Row nV X g 3 r∧B≤g∧g<N∧r.length≤256
structure lJ (w X:World) (tb N:Nat) (cell:List Nat) (nb:Nat) (ks:List Sx) (nx:List (List Nat)) (ac:List Bool) (po:Option Addr) (co:Nat) (pn:Option Addr) (cn:Nat) (pa:Option Addr) (ca:Nat) (us:List OC):Prop where
 fB:Below tb w X
 out:Row oV X (tb+2) 166 (bf ⟨List.replicate 256 0,0,[],[]⟩ on on)
 tab:Row oV X (tb+3) 166 (bf ⟨cell,nb,[],[]⟩ ⟨.slice pn us.length cn,rfl⟩ ⟨.slice pa ac.length ca,rfl⟩)
 map:fA ql encS Tryz.prog 286 3 X (tb+4) ks
 xW:aP 3 ji X (tb+5) 286 (.slice po ks.length co) ks
 next:Mem.Own oV X (tb+5) 92 (.slice pn us.length cn) us
 rows:F2 (aea X (tb+5) N) us nx
 acc:Mem.Own Value.bool X (tb+5) 4 (.slice pa ac.length ca) ac
 sz:tb+5≤X.heap.size
 nN:N≤X.heap.size
section
variable {w X X':World} {tb N nb:Nat} {cell:List Nat} {ks:List Sx} {nx:List (List Nat)} {ac:List Bool} {po:Option Addr} {co:Nat} {pn:Option Addr} {cn:Nat} {pa:Option Addr} {ca:Nat} {us:List OC}
theorem lJ.grown (h:lJ w X tb N cell nb ks nx ac po co pn cn pa ca us) {row:Option Nat} (hg:X.grownBy X' row) (hr:∀g,row=some g→N≤g∧tb+5≤g∧(Value.slice po ks.length co).ownBlock≠some g∧(Value.slice pn us.length cn).ownBlock≠some g∧(Value.slice pa ac.length ca).ownBlock≠some g):lJ w X' tb N cell nb ks nx ac po co pn cn pa ca us:=by
 have hz:=h.sz;refine ⟨h.fB.grown hg (by omega) (fun k e=>by have:=(hr k e).2.1;omega),h.out.grown hg (fun e=>by have:=(hr _ e.symm).2.1;omega),h.tab.grown hg (fun e=>by have:=(hr _ e.symm).2.1;omega),h.map.kept hg (fun e=>by have:=(hr _ e.symm).2.1;omega),h.xW.grown hg (fun g hg' e=>(hr g e.symm).2.2.1 hg'),h.next.kept hg (fun g hg' e=>(hr g e).2.2.2.1 hg'),?_,h.acc.kept hg (fun g hg' e=>(hr g e).2.2.2.2 hg'),aJ h.sz hg.size,aJ h.nN hg.size⟩;refine bg ?_ h.rows;rintro u r ⟨g,e1,e2,e3,e4,e6⟩;exact ⟨g,e1,e2.grown hg (fun e=>by have:=(hr g e.symm).1;omega),e3,e4,e6⟩
theorem lJ.under (h:lJ w X tb N cell nb ks nx ac po co pn cn pa ca us) (hb:Below X.heap.size X X'):lJ w X' tb N cell nb ks nx ac po co pn cn pa ca us:=h.grown (Mem.aY hb none) (fun _ e=>by cases e)
theorem lJ.alloc (h:lJ w X tb N cell nb ks nx ac po co pn cn pa ca us) (o:Obj):lJ w (X.alloc o) tb N cell nb ks nx ac po co pn cn pa ca us:=h.grown (Us X o none) (fun _ e=>by cases e)
theorem lJ.mono (h:lJ w X tb N cell nb ks nx ac po co pn cn pa ca us) {M:Nat} (hM:N≤M) (hX:M≤X.heap.size):lJ w X tb M cell nb ks nx ac po co pn cn pa ca us:=
 ⟨h.fB,h.out,h.tab,h.map,h.xW,h.next,bg (fun _ _ ⟨g,e1,e2,e3,e4,e6⟩=>⟨g,e1,e2,e3,by omega,e6⟩) h.rows,h.acc,h.sz,hX⟩
theorem lJ.row (h:lJ w X tb N cell nb ks nx ac po co pn cn pa ca us) (g i:Nat) {l:List Nat} (hr:Row nV X g 3 l) (v:Value) (hg:N≤g) (hB:tb+5≤g):lJ w (X.setCell ⟨g,i,none⟩ v) tb N cell nb ks nx ac po co pn cn pa ca us:=
 h.grown (aB X g i v) (fun k e=>by
  injection e with e
  subst e
  exact ⟨hg,hB,fun e=>h.xW.row hr (by decide) _ e rfl,fun e=>lu h.next hr (by decide) _ e rfl,fun e=>lu h.acc hr (by decide) _ e rfl⟩)
theorem lJ.add (h:lJ w X tb N cell nb ks nx ac po co pn cn pa ca us) {W7:World} {t:Sx} (hm:fA ql encS Tryz.prog 286 3 W7 (tb+4) (ks++[t])) (Pd:X.grownBy W7 (some (tb+4))) {o:Obj} {p:Option Addr} {c:Nat}
  (hO:aP 3 ji X' (tb+5) 286 (.slice p (ks++[t]).length c) (ks++[t])) (hG:(W7.alloc o).grownBy X' (Value.slice po ks.length co).ownBlock):lJ w X' tb N cell nb (ks++[t]) nx ac p c pn cn pa ca us:=by
 have hz:=h.sz;have hlt:=fun g e=>(h.xW.lt g e).1;have hrow:∀k l,Row nV X k 3 l→some k≠(Value.slice po ks.length co).ownBlock:=fun k l hk e=>h.xW.row hk (by decide) _ e.symm rfl;have g8:W7.grownBy X' (Value.slice po ks.length co).ownBlock:=⟨hG.os,hG.tape,hG.output,aJ (by rw [bO];omega) hG.size,fun b hb hn=>(hG.block b (by rw [bO];omega) hn).trans (o5 _ _ _ hb)⟩
 have s8:X.heap.size≤X'.heap.size:=aJ Pd.size g8.size;have hne:∀b,b<tb+5→some b≠(Value.slice po ks.length co).ownBlock:=fun b hb e=>by have:=hlt b e.symm;omega
 refine ⟨(h.fB.grown Pd (by omega) (fun k e=>by injection e with e;omega)).grown g8 (by have:=Pd.size;omega) (fun k e=>by have:=hlt k e;omega),(h.out.grown Pd (fun e=>by injection e with e;omega)).grown g8 (hne _ (by omega)),(h.tab.grown Pd (fun e=>by injection e with e;omega)).grown g8 (hne _ (by omega)),hm.kept g8 (hne _ (by omega)),hO,(h.next.kept Pd (fun g hg e=>by have:=(h.next.lt g hg).1;injection e with e;omega)).kept g8 (fun g hg e=> ?_),?_,(h.acc.kept Pd (fun g hg e=>by have:=(h.acc.lt g hg).1;injection e with e;omega)).kept g8 (fun g hg e=> ?_),aJ hz s8,aJ h.nN s8⟩
 ·exact h.xW.type h.next (by decide) g e hg.symm
 ·refine bg ?_ h.rows;rintro u r ⟨g,e1,e2,e3,e4,e6⟩;exact ⟨g,e1,(e2.grown Pd (fun e=>by injection e with e;omega)).grown g8 (hrow g r e2),e3,e4,e6⟩
 ·exact h.xW.type h.acc (by decide) g e hg.symm
theorem lJ.BA (h:lJ w X tb N cell nb ks nx ac po co pn cn pa ca us) {g:Nat} {r:List Nat} (hr:Row nV X g 3 r) (hgB:tb+5≤g) (hr2:r.length≤256) (hcl:cell.length=256) {o:Obj} {p:Option Addr} {c:Nat} {u:OC} (hu:u.1= .slice (some ⟨g,0,none⟩) r.length r.length)
  (hO:Mem.Own oV X' (tb+5) 92 (.slice p (us++[u]).length c) (us++[u])) (hG:(X.alloc o).grownBy X' (Value.slice pn us.length cn).ownBlock) {M:Nat} (hM:N≤M) (hgM:g<M) (ZU:M≤X'.heap.size):
  lJ w (X'.setCell ⟨tb+3,257,none⟩ (.slice p (us++[u]).length c)) tb M cell nb ks (nx++[r]) ac po co p c pa ca (us++[u]):=by
 have h':=h.alloc o;have hz:=h'.sz;have hlt:=fun g e=>(h.next.lt g e).1;have hne:∀b,b<tb+5→some b≠(Value.slice pn us.length cn).ownBlock:=fun b hb e=>by have:=hlt b e.symm;omega
 have hgs:=aB X' (tb+3) 257 (.slice p (us++[u]).length c);have qg:∀b,b≠tb+3→some b≠some (tb+3):=fun b hb e=>hb (by injection e);have d1:=(h'.tab.grown hG (hne _ (by omega))).set 257 ⟨.slice p (us++[u]).length c,rfl⟩
 have e1:(bf ⟨cell,nb,[],[]⟩ ⟨.slice pn us.length cn,rfl⟩ ⟨.slice pa ac.length ca,rfl⟩).set 257 ⟨.slice p (us++[u]).length c,rfl⟩=bf ⟨cell,nb,[],[]⟩ ⟨.slice p (us++[u]).length c,rfl⟩ ⟨.slice pa ac.length ca,rfl⟩:=by
  unfold bf;rw [GA _ _ (by rw [fe];show cell.length≤257;omega),fe];show _++List.set _ (257 - cell.length) _=_;rw [hcl];rfl
 rw [e1] at d1;have JC:tb+5≤X'.heap.size:=aJ h'.sz hG.size;refine ⟨(h'.fB.grown hG (by omega) (fun k e=>by have:=hlt k e;omega)).grown hgs (by omega) (fun k e=>by injection e with e;omega),(h'.out.grown hG (hne _ (by omega))).grown hgs (qg _ (by omega)),d1,(h'.map.kept hG (hne _ (by omega))).kept hgs (qg _ (by omega)),(h'.xW.grown hG (fun k hk e=>h'.xW.type (h.next.alloc o) (by decide) k hk e)).grown hgs (fun k hk=>qg _ (by have:=(h.xW.lt k hk).1;omega)),hO.kept hgs (fun k hk e=>qg k (by have:=(hO.lt k hk).1;omega) e.symm),?_,(h'.acc.kept hG (fun k hk e=>iL h.next h.acc (by decide) k e hk)).kept hgs (fun k hk e=>qg k (by have:=(h.acc.lt k hk).1;omega) e.symm),aJ JC hgs.size,aJ ZU hgs.size⟩;refine Bz (bg ?_ h.rows) ⟨g,hu,((hr.alloc o).grown hG (fun e=>lu h.next hr (by decide) _ e.symm rfl)).grown hgs (qg _ (by omega)),hgB,hgM,hr2⟩;rintro u' r' ⟨k,e1,e2,e3,e4,e6⟩;exact ⟨k,e1,((e2.alloc o).grown hG (fun e=>lu h.next e2 (by decide) _ e.symm rfl)).grown hgs (qg _ (by omega)),e3,by omega,e6⟩
theorem lJ.Cn (h:lJ w X tb N cell nb ks nx ac po co pn cn pa ca us) (hcl:cell.length=256) {o:Obj} {b:Bool} {p:Option Addr} {c:Nat}
  (hO:Mem.Own Value.bool X' (tb+5) 4 (.slice p (ac++[b]).length c) (ac++[b])) (hG:(X.alloc o).grownBy X' (Value.slice pa ac.length ca).ownBlock):
  lJ w (X'.setCell ⟨tb+3,258,none⟩ (.slice p (ac++[b]).length c)) tb N cell nb ks nx (ac++[b]) po co pn cn p c us:=by
 have h':=h.alloc o;have hz:=h'.sz;have hlt:=fun g e=>(h.acc.lt g e).1;have hne:∀b,b<tb+5→some b≠(Value.slice pa ac.length ca).ownBlock:=fun b hb e=>by have:=hlt b e.symm;omega
 have hgs:=aB X' (tb+3) 258 (.slice p (ac++[b]).length c);have qg:∀b,b≠tb+3→some b≠some (tb+3):=fun b hb e=>hb (by injection e);have d1:=(h'.tab.grown hG (hne _ (by omega))).set 258 ⟨.slice p (ac++[b]).length c,rfl⟩
 have e1:(bf ⟨cell,nb,[],[]⟩ ⟨.slice pn us.length cn,rfl⟩ ⟨.slice pa ac.length ca,rfl⟩).set 258 ⟨.slice p (ac++[b]).length c,rfl⟩=bf ⟨cell,nb,[],[]⟩ ⟨.slice pn us.length cn,rfl⟩ ⟨.slice p (ac++[b]).length c,rfl⟩:=by
  unfold bf;rw [GA _ _ (by rw [fe];show cell.length≤258;omega),fe];show _++List.set _ (258 - cell.length) _=_;rw [hcl];rfl
 rw [e1] at d1;have JC:tb+5≤X'.heap.size:=aJ h'.sz hG.size;refine ⟨(h'.fB.grown hG (by omega) (fun k e=>by have:=hlt k e;omega)).grown hgs (by omega) (fun k e=>by injection e with e;omega),(h'.out.grown hG (hne _ (by omega))).grown hgs (qg _ (by omega)),d1,(h'.map.kept hG (hne _ (by omega))).kept hgs (qg _ (by omega)),(h'.xW.grown hG (fun k hk e=>h'.xW.type (h.acc.alloc o) (by decide) k hk e)).grown hgs (fun k hk=>qg _ (by have:=(h.xW.lt k hk).1;omega)),(h'.next.kept hG (fun k hk e=>iL h.acc h.next (by decide) k e hk)).kept hgs (fun k hk e=>qg k (by have:=(h.next.lt k hk).1;omega) e.symm),?_,hO.kept hgs (fun k hk e=>qg k (by have:=(hO.lt k hk).1;omega) e.symm),aJ JC hgs.size,aJ (aJ h'.nN hG.size) hgs.size⟩;refine bg ?_ h.rows;rintro u' r' ⟨k,e1,e2,e3,e4,e6⟩;exact ⟨k,e1,((e2.alloc o).grown hG (fun e=>lu h.acc e2 (by decide) _ e.symm rfl)).grown hgs (qg _ (by omega)),e3,e4,e6⟩
end
end
section
open Go Go.RowKit Mem
theorem Mq (off:Nat):∀(l mid pre post:List Value) (k:Nat),mid.length=l.length→off+k=pre.length→
  (l.zipIdx k).foldl (fun (cs:Array Value) (x:Value×Nat)=>cs.setIfInBounds (off+x.2) x.1) (pre++mid++post).toArray=(pre++l++post).toArray
 | [],[],pre,post,k,_,_=>by simp
 | [],_::_,_,_,_,h,_=>by simp at h
 | _::_,[],_,_,_,h,_=>by simp at h
 | c::l,d::mid,pre,post,k,h,hk=>by
  rw [List.zipIdx_cons,qcF]
  have e:((pre++(d::mid)++post).toArray.setIfInBounds (off+k) c)=((pre++[c])++mid++post).toArray:=by
   rw [hk,Ae,zD,GA _ _ (af _),D7];simp
  show List.foldl _ ((pre++(d::mid)++post).toArray.setIfInBounds (off+k) c) _=_;rw [e,Mq off l mid (pre++[c]) post (k+1) (by simpa using h) (by simp;omega)];simp
theorem VG (CA:Array Value) (cell:List Nat) (nb:Nat) (Pk:CA=(cell.map nV).toArray) (hcl:cell.length=256):
  ((Array.foldl (fun (cs:Array Value) (x:Value×Nat)=>cs.setIfInBounds x.snd x.fst) Tryz.zeroCells166 CA.zipIdx 0 CA.size).setIfInBounds 256 (.int .i64 (nb:Int)))=((bf ⟨cell,nb,[],[]⟩ on on).map oV).toArray:=by
 have h:Tryz.zeroCells166=((List.replicate 256 (Value.int .i64 0))++[Value.int .i64 0, .slice none 0 0, .slice none 0 0]).toArray:=by kernel_rfl
 rw [h,Pk];have hf:=Mq 0 (cell.map nV) (List.replicate 256 (Value.int .i64 0)) [] [Value.int .i64 0, .slice none 0 0, .slice none 0 0] 0 (by simp [hcl]) rfl;rw [Lc,Lc] at hf
 have e2:Array.foldl (fun (cs:Array Value) (x:Value×Nat)=>cs.setIfInBounds x.snd x.fst) ((List.replicate 256 (Value.int .i64 0))++[Value.int .i64 0, .slice none 0 0, .slice none 0 0]).toArray (cell.map nV).toArray.zipIdx 0 (cell.map nV).toArray.size=(cell.map nV++[Value.int .i64 0, .slice none 0 0, .slice none 0 0]).toArray:=by
  have hz:(cell.map nV).toArray.size=(cell.map nV).toArray.zipIdx.size:=by simp
  rw [← hf,hz,← Array.foldl_toList,Array.toList_zipIdx];simp only [oq]
 rw [e2,Ae,GA _ _ (by simp [hcl])];simp [hcl,bf,oV,oi];rfl
structure NxC (w:World) (g:FuncId) (cp:Array Value) (ok:Sx→Prop) (bs:List Nat) (bU:Sx→Nat→Sx):Prop where
 en:∀(args:Array Value) (w:World),Sem.run Tryz.prog (callFunc g args) w= .ok (.enter g args) w
 ca:∀X,Below w.heap.size w X→∀s,ok s→∀c∈bs,Calls Tryz.prog g (#[.agg (dh s), .int .i64 (c:Int)]++cp) X fun e X'=>e= .returned (.agg (dh (bU s c)))∧Below X.heap.size X X'
structure AcC (w:World) (g:FuncId) (cp:Array Value) (ok:Sx→Prop) (acc:Sx→Bool):Prop where
 en:∀(args:Array Value) (w:World),Sem.run Tryz.prog (callFunc g args) w= .ok (.enter g args) w
 ca:∀X,Below w.heap.size w X→∀s,ok s→Calls Tryz.prog g (#[.agg (dh s)]++cp) X fun e X'=>e= .returned (.bool (acc s))∧Below X.heap.size X X'
theorem aau:bR Tryz.prog 152 256:=⟨fun _=>by kernel_rfl,fun _=>by kernel_rfl⟩
def Aq (w:World) (vn va:OC) (T:TB):Prop:=∀X,dL w X→vW X vn.1 T.nx∧Rd Value.bool X va.1 T.ac
theorem Aq.keep {w w':World} {vn va:OC} {T:TB} (h:Aq w vn va T) (hk:dL w w'):Aq w' vn va T:=fun X hX=>h X (hk.trans hX)
def YZ (w':World) (e:Ending):Option TB→Prop
 | none=>e= .returned (.tuple #[.agg fP, .bool false])
 | some T=>∃tn ta:OC,e= .returned (.tuple #[.agg ((bf T tn ta).map oV).toArray, .bool true])∧Aq w' tn ta T∧T.cell.length=256
theorem MJ (w:World) (CA:Array Value) (cell:List Nat) (Pk:CA=(cell.map nV).toArray) (hcl:cell.length=256) (vb:Value) (bs:List Nat) (hb:Rd nV w vb bs) (hb256:bs.length≤256)
  (ok:Sx→Prop) (start:Sx) (hs:ok start) (hok:∀s,ok s→ql s) (bU:Sx→Nat→Sx) (acc:Sx→Bool) (hnx:∀s,ok s→∀c∈bs,ok (bU s c)) (gn ga:FuncId) (cn ca:Array Value) (hN:NxC w gn cn ok bs bU) (hA:AcC w ga ca ok acc) (m K:Nat) (hm:1≤m) (hm2:m≤1073741824) (hK:∀l:List Sx,XOk ok m l→l.length≤K) (YJ:K≤65535):
  Calls Tryz.prog 184 #[.agg CA,vb, .agg (dh start), .func (.func gn) #[] cn, .func (.func ga) #[] ca, .int .i64 (m:Int)] w fun e w'=>Below w.heap.size w w'∧YZ w' e (vH cell bs start bU acc m K):=by
 obtain ⟨pb,kb,rfl⟩:=hb.slice;have HB:=Lib.hid hb;have HN:=Lib.hid hN;have HA:=Lib.hid hA;have ad7:=Lib.hid hok;have HNX:=Lib.hid hnx;have HK:=Lib.hid hK;have HS:=Lib.hid hs;obtain ⟨n,Hn⟩:∃n,Hid (bs.length=n):=⟨_,Lib.hid rfl⟩
 rw [Hn.out] at hb256 HB ⊢;have r0:Row nV (w.alloc (.cells CA 152)) w.heap.size 152 cell:=Row.new _ _ (by rw [Pk]);have Ep:=Lib.hid Pk;have qH:=Lib.hid hcl;have hA2:bR Tryz.prog 152 cell.length:=by rw [hcl];exact aau
 have s0:(w.alloc (.cells CA 152)).heap.size=w.heap.size+1:=bO _ _;have b0:Below w.heap.size w (w.alloc (.cells CA 152)):=(ak _ _).alloc (af _) _
 have r1:Row oV ((w.alloc (.cells CA 152)).alloc (.cells (dh start) 286)) (w.heap.size+1) 286 (ji start):=by
  have h:=Row.new (f:=oV) (w.alloc (.cells CA 152)) (t:=286) (l:=ji start) (.cells (dh start) 286) rfl
  rwa [s0] at h
 have s1:((w.alloc (.cells CA 152)).alloc (.cells (dh start) 286)).heap.size=w.heap.size+2:=by rw [bO,s0]
 clear hb hN hA hok hnx hK hs Pk hcl;go_enter Tryz.func184,Tryz.ntmps184;go_upto_region 1 with ((with_reducible refine gy (t:=166) fP uq ?_ ?_ (w.heap.size+2) ?_ ?_);rfl;rfl;exact s1);have r0':=(r0.alloc (.cells (dh start) 286)).alloc (.cells fP 166);have r1':=r1.alloc (.cells fP 166);have b2:=(b0.alloc (by rw [s0];omega) (.cells (dh start) 286)).alloc (by rw [s1];omega) (.cells fP 166)
 have r2:Row oV (((w.alloc (.cells CA 152)).alloc (.cells (dh start) 286)).alloc (.cells fP 166)) (w.heap.size+2) 166 (bf ⟨List.replicate 256 0,0,[],[]⟩ on on):=by
  have h:=Row.new (f:=oV) ((w.alloc (.cells CA 152)).alloc (.cells (dh start) 286)) (t:=166) (l:=bf ⟨List.replicate 256 0,0,[],[]⟩ on on) (.cells fP 166) rfl
  rwa [s1] at h
 have s2:(((w.alloc (.cells CA 152)).alloc (.cells (dh start) 286)).alloc (.cells fP 166)).heap.size=w.heap.size+3:=by rw [bO,s1]
 generalize (((w.alloc (.cells CA 152)).alloc (.cells (dh start) 286)).alloc (.cells fP 166))=W at r0' r1' r2 b2 s2 ⊢;clear r0 s0 b0 r1 s1;obtain ⟨C0,qU⟩:∃C,Hid (C=((bf ⟨cell,n,[],[]⟩ on on).map oV).toArray):=⟨_,Lib.hid rfl⟩
 have hbu:=VG CA cell n Ep.out qH.out;have adP:CA.size=256:=by rw [Ep.out];simp [qH.out]
 rw [← qU.out,adP] at hbu;obtain ⟨F1,hF1⟩:∃F,Array.foldl (fun (cs:Array Value) (x:Value×Nat)=>cs.setIfInBounds x.snd x.fst) Tryz.zeroCells166 CA.zipIdx 0 256=F:=⟨_,rfl⟩
 rw [hF1] at hbu
 have hF2:F1.size=259:=by
  have h:=congrArg Array.size hbu;rw [qU.out] at h;simpa [bf,qH.out] using h
 have r3:Row oV (W.alloc (.cells fP 166)) (w.heap.size+3) 166 (bf ⟨List.replicate 256 0,0,[],[]⟩ on on):=by
  have h:=Row.new (f:=oV) W (t:=166) (l:=bf ⟨List.replicate 256 0,0,[],[]⟩ on on) (.cells fP 166) rfl
  rwa [s2] at h
 have b3:=b2.alloc (by rw [s2];omega) (.cells fP 166);have r13:=r1'.alloc (.cells fP 166);have r23:=r2.alloc (.cells fP 166);have s3:(W.alloc (.cells fP 166)).heap.size=w.heap.size+4:=by rw [bO,s2]
 have xC:bR Tryz.prog 166 (bf ⟨cell,n,[],[]⟩ on on).length:=by rw [aR _ _ qH.out];exact iR
 have Qa:(bf ⟨cell,n,[],[]⟩ on on).length=(bf ⟨List.replicate 256 0,0,[],[]⟩ on on).length:=by rw [aR _ _ qH.out,aR _ _ (by simp)]
 go_upto_region 2 with (first
  | ((with_reducible refine zL r0'.at hA2 Ep.out ?_))
  | ((with_reducible refine gy (t:=166) fP uq ?_ ?_ (w.heap.size+3) ?_ ?_);rfl;rfl;exact s2)
  | ((with_reducible refine aF (f:=oV) (l:=bf ⟨List.replicate 256 0,0,[],[]⟩ on on) (l':=bf ⟨cell,n,[],[]⟩ on on) (t:=166) (C:=C0) xC (.tmp 14) (.tmp 27) ?_ ?_ (w.heap.size+3) ?_ qU.out ?_ r3 Qa bC ?_);rfl;rfl;rfl;(first | rfl | exact congrArg Value.agg hbu);(intro W6 hs6 di fO)))
 have b6:=b3.grown di (by omega) (fun k e=>by injection e with e;omega);have r16:=r13.grown di (by simp);have r26:=r23.grown di (by simp);have s6:=fO.trans s3;clear adP hF1 hF2 r0' r1' r2 b2 s2 r3 b3 r13 r23 s3 hbu di fO Qa xC qU hA2;clear F1 W;obtain ⟨tb,dx⟩:∃tb,Hid (w.heap.size=tb):=⟨_,Lib.hid rfl⟩
 rw [dx.out] at b6 r16 r26 s6 hs6 ⊢;have hmm:= @run_makeMap Tryz.prog
 have hmp:fA ql encS Tryz.prog 286 3 (W6.alloc (.map #[] 0)) (tb+4) []:=by
  have h:=fA.made (ok:=ql) (enc:=encS) (P:=Tryz.prog) (K:=286) (E:=3) W6
  rwa [s6] at h
 have r17:=r16.alloc (.map #[] 0);have HOS:Hid (ql start):=Lib.hid (ad7.out _ HS.out);have hkey:=Vz start HOS.out
 go_upto_region 3 with (first
  | ((with_reducible refine zL r17.at lC (kF start) ?_))
  | ((with_reducible refine abg hmp ?_ (.tmp 28) (.tmp 29) (.const (.int .i64 0)) ?_ kS Tryz.underlying340 Tryz.underlying3 LH M3 ?_ start HOS.out (by simp) (by simp) (.agg (dh start)) ?_ hkey ?_ ?_);rfl;rfl;rfl;rfl;rfl;(intro W7 uu gB)))
 have fO:(W6.alloc (.map #[] 0)).heap.size=tb+5:=by rw [bO,s6]
 have r18:=r17.grown gB (by simp);have r28:=(r26.alloc (.map #[] 0)).grown gB (by simp);have t8:=(hs6.alloc (.map #[] 0)).grown gB (by simp);have b8:=(b6.alloc (by rw [s6];omega) (.map #[] 0)).grown gB (by rw [fO];omega) (fun k e=>by injection e with e;omega);have vS:tb+5≤W7.heap.size:=by have h:=gB.size;rw [fO] at h;exact h
 clear hmm hmp r16 r17 r26 b6 s6 hs6 gB fO hkey;clear W6;have hks:∀x:Sx,Array.foldl (fun (cs:Array Value) (x:Value×Nat)=>cs.setIfInBounds x.snd x.fst) #[Value.int .i64 0,Value.int .i64 0,Value.int .u64 0] (dh x).zipIdx 0 3=dh x:=fun x=>rfl;have dY:∀x:Sx,(dh x).size=3:=fun x=>rfl;go_upto_region 4 with ((with_reducible refine zL r18.at lC (kF start) ?_));have hL0:aP 3 ji (W7.alloc (.cells (dh start) 286)) (tb+5) 286 (.slice (some ⟨W7.heap.size,0,none⟩) 1 1) [start]:=Xc W7 rfl vS CZ start (kF start)
 have hX0:lJ w (W7.alloc (.cells (dh start) 286)) tb (tb+5) cell n [start] [] [] (some ⟨W7.heap.size,0,none⟩) 1 none 0 none 0 []:=
  ⟨b8.alloc (by omega) _,r28.alloc _,t8.alloc _,uu.alloc _,hL0,Own.nil _ _ _, .nil,Own.nil _ _ _,by rw [bO];omega,by rw [bO];omega⟩
 have hG0:Hid (vH cell bs start bU acc m K=(xF m bU acc bs (K - 0) 0 ⟨[start],[],[]⟩).map fun a=>⟨cell,bs.length,a.nx,a.ac⟩):=Lib.hid rfl;have uR:XA.Ok ok m bs.length 0 ⟨[start],[],[]⟩:=Uz HS.out hm;rw [Hn.out] at uR;generalize (W7.alloc (.cells (dh start) 286))=W8 at hX0 ⊢;generalize (some (⟨W7.heap.size,0,none⟩:Addr))=p0 at hX0 ⊢;clear hL0 r28 t8 b8 uu r18 vS;clear W7;generalize Value.agg C0=vC0;generalize Value.agg (dh start)=vS0;generalize Value.agg CA=vCA;go_wp2_with fail
 go_loopw [16,17] (fun s16 s17 wr=>∃(i:Nat) (a:XA) (po:Option Addr) (co:Nat) (pn:Option Addr) (cn:Nat) (pa:Option Addr) (ca:Nat) (us:List OC) (N:Nat),s17= .int .i64 i∧s16= .slice po a.ks.length co∧Hid (vH cell bs start bU acc m K=(xF m bU acc bs (K - i) i a).map fun a=>⟨cell,bs.length,a.nx,a.ac⟩)∧Hid (XA.Ok ok m n i a)∧lJ w wr tb N cell n a.ks a.nx a.ac po co pn cn pa ca us) (fun _ s17 _=>K - (intOf s17).toNat)
 case atStart=>exact ⟨0,⟨[start],[],[]⟩,p0,1,none,0,none,0,[],tb+5,rfl,rfl,hG0,Lib.hid uR,hX0⟩
 case round=>
  clear hX0 hG0 uR;obtain ⟨i,a,po,co,pn,c2,pa,c3',us,N,rfl,rfl,HG,HO,hX⟩:=hrel;by_cases hlt:i<a.ks.length
  ·have hq:(i:Int)<(a.ks.length:Int):=by omega
   have hkK:a.ks.length≤K:=HK.out _ HO.out.toXOk;have hkm:a.ks.length≤m:=HO.out.le;obtain ⟨s,Hs⟩:∃s,Hid (a.ks.getD i jM=s):=⟨_,Lib.hid rfl⟩
   have HSI:Hid (ok s):=Lib.hid (by rw [← Hs.out];exact HO.out.ok _ (aK _ _ _ hlt));obtain ⟨MB,lg⟩:∃C,Hid (C=((List.replicate n 0).map nV).toArray):=⟨_,Lib.hid rfl⟩
   have hmk:∀w:World,(Instr.makeSlice 92 (.int .i64 (n:Int)) (.int .i64 (n:Int))).run Tryz.prog w= .ok (.slice (some ⟨w.heap.size,0,none⟩) n n) (w.alloc (.cells MB 3)):=fun w=>by rw [lg.out];exact uh w n (by omega)
   have Cm:Row nV (wr.alloc (.cells MB 3)) wr.heap.size 3 (List.replicate n 0):=Row.new _ _ (by rw [lg.out]);have hX1:=(hX.alloc (.cells MB 3)).mono (M:=wr.heap.size) hX.nN (by rw [bO];omega);have hgN:=hX.nN;have hgB:=hX.sz;have hg1:wr.heap.size+1≤(wr.alloc (.cells MB 3)).heap.size:=by rw [bO];exact af _
   have KS:XS.Ok ok m ⟨a.ks,[]⟩:={toXOk:=HO.out.toXOk,rb:=by simp}
   go_upto_region 9 with (fail);obtain ⟨g1,Hg1⟩:∃g,Hid (wr.heap.size=g):=⟨_,Lib.hid rfl⟩
   rw [Hg1.out] at Cm hX1 hgN hgB hg1 ⊢;generalize (wr.alloc (.cells MB 3))=W1 at Cm hX1 hg1 ⊢;clear hX hmk lg;go_wp2_with fail
   go_loopw [16,44] (fun s16 s44 wq=>∃(j:Nat) (st:XS) (po:Option Addr) (co:Nat),j≤n∧s44= .int .i64 j∧s16= .slice po st.ks.length co∧Hid (qj m bU s (bs.take j) ⟨a.ks,[]⟩=some st)∧Hid (st.Ok ok m∧st.row.length=j∧∃z,st.ks=a.ks++z)∧lJ w wq tb g1 cell n st.ks a.nx a.ac po co pn c2 pa c3' us∧Row nV wq g1 3 (st.row++List.replicate (n - j) 0)∧g1+1≤wq.heap.size) (fun _ s44 _=>n - (intOf s44).toNat)
   case atStart=>exact ⟨0,⟨a.ks,[]⟩,po,co,LC _,rfl,rfl,Lib.hid rfl,Lib.hid ⟨KS,rfl,[],(D8 _).symm⟩,hX1,by simpa using Cm,hg1⟩
   case round=>
    clear Cm hX1 hg1 KS;clear W1;obtain ⟨j,st,p2,k2,hj,rfl,rfl,HXR,HST,hX,hR,hg1⟩:=hrel;by_cases hjn:j<n
    ·have hjq:(j:Int)<(n:Int):=by omega
     obtain ⟨cb,cO,rfl,hct⟩:=iF HB.out j hjn;have hBW:Below w.heap.size w wr:=by rw [dx.out];exact hX.fB
     have ct:=hct wr hBW;have hjb:j<bs.length:=by rw [Hn.out];exact hjn
     obtain ⟨c,Hc⟩:∃c,Hid (bs.getD j 0=c):=⟨_,Lib.hid rfl⟩
     have HCM:Hid (c∈bs):=Lib.hid (by rw [← Hc.out];exact aK _ _ _ hjb);rw [Hc.out] at ct;have hkl:a.ks.length≤st.ks.length:=by obtain ⟨_,_,z,hz⟩:=HST.out;rw [hz,eH];omega
     have hil:i<st.ks.length:=by omega
     have hiq:(i:Int)<(st.ks.length:Int):=by omega
     have hgi:st.ks[i]=s:=by
      obtain ⟨_,_,z,hz⟩:=HST.out;rw [← Hs.out,dJ,bK hlt];simp only [hz];rw [JB hlt];rfl
     obtain ⟨g,rfl,hgl,hat⟩:=gp CZ hX.xW i hil;rw [hgi] at hat;have hen:=HN.out.en;clear hct hkl hil hgi;go_wp2_with ((with_reducible refine zL hat lC rfl (C:=dh s) ?_));refine (HN.out.ca _ hBW s HSI.out c HCM.out).mono ?_;rintro e W2 ⟨rfl,hB2⟩;obtain ⟨t,Ht⟩:∃t,Hid (bU s c=t):=⟨_,Lib.hid rfl⟩
     have HTI:Hid (ok t):=Lib.hid (by rw [← Ht.out];exact HNX.out _ HSI.out _ HCM.out)
     have ab1:Hid (qj m bU s (bs.take (j+1)) ⟨a.ks,[]⟩=Jo m st t):=Lib.hid (by
      have e:bs[j]=c:=by rw [← Hc.out,dJ,bK hjb];rfl
      rw [Km _ _ _ _ _ _ hjb,HXR.out,e,Ht.out];rfl)
     rw [Ht.out];have hX2:=hX.under hB2;have hR2:=hR.below hB2 (by omega);have hg2:=aJ hg1 hB2.size;clear hB2 hX hR hg1 hat hen ct hBW hgl;obtain ⟨kb2,vL⟩:∃k,Hid (W2.heap.size=k):=⟨_,Lib.hid rfl⟩
     have hk0:Row oV (W2.alloc (.cells #[.int .i64 0, .int .i64 0, .int .u64 0] 286)) W2.heap.size 286 (ji jM):=Row.new _ _ rfl;have EL:=hX2.alloc (.cells #[.int .i64 0, .int .i64 0, .int .u64 0] 286);have EX:=hR2.alloc (.cells #[.int .i64 0, .int .i64 0, .int .u64 0] 286);have ad6:=hX2.nN;have adz:=hX2.sz;have hgr:=bO W2 (.cells #[.int .i64 0, .int .i64 0, .int .u64 0] 286);rw [vL.out] at hk0 ad6 adz hgr hg2;go_upto_region 12 with ((with_reducible refine aF (f:=oV) (l:=ji jM) (l':=ji t) (t:=286) (C:=dh t) lC (.tmp 21) (.tmp 55) ?_ ?_ kb2 ?_ rfl ?_ hk0 rfl bC ?_);rfl;rfl;(first | rfl | exact congrArg (fun n=>Value.pointer (some ⟨n,0,none⟩)) vL.out);rfl;(intro W3 hs3 hG3 hz3));rw [vL.out]
     have xI:=EL.grown hG3 (fun k e=>by
      injection e with e
      subst e
      exact ⟨ad6,adz,fun e=>by have h1:=(hX2.xW.lt _ e).2;have h2:=vL.out;omega,fun e=>by have h1:=(hX2.next.lt _ e).2;have h2:=vL.out;omega,fun e=>by have h1:=(hX2.acc.lt _ e).2;have h2:=vL.out;omega⟩)
     have Jd:=EX.grown hG3 (by simp;omega);have hg4:g1+1≤W3.heap.size:=by rw [hz3,hgr];omega
     have hkn:kb2<W3.heap.size:=hs3.lt;clear hk0 EL EX hG3 hz3 hgr hX2 hR2 vL;clear W2 wr;have Nf:Hid (ql t):=Lib.hid (ad7.out _ HTI.out);have qh:Hid (Go.keyOf Tryz.prog 286 (.agg (dh t))=some (encS t)):=Lib.hid (Vz t Nf.out);have hz:∀w:World,(zeroValue 3).run Tryz.prog w= .ok (.int .i64 0) w:=fun w=>by kernel_rfl
     have hmp:=xI.map;have Ll:Hid (Jo m st t=if t∈st.ks then some {st with row:=st.row++[st.ks.idxOf t]} else if st.ks.length=m then none else some ⟨st.ks++[t],st.row++[st.ks.length]⟩):=Lib.hid rfl;obtain ⟨hS1,hS2,uH⟩:=HST.out;have agR:st.ks.length≤K:=HK.out _ hS1.toXOk;have hrl:(st.row++List.replicate (n - j) 0).length=n:=by rw [eH,SY,hS2];omega
     have hjr:j<(st.row++List.replicate (n - j) 0).length:=by rw [hrl];exact hjn
     have hsn:∀q:Nat,(st.row++List.replicate (n - j) 0).set j q=(st.row++[q])++List.replicate (n - (j+1)) 0:=fun q=>zh hS2 hjn;have HSN:=Lib.hid hsn;clear hsn hS1;by_cases hm:t∈st.ks
     ·rw [if_pos hm] at Ll;obtain ⟨q,Hq⟩:∃q,Hid (@List.idxOf _ instBEqOfDecidableEq t st.ks=q):=⟨_,Lib.hid rfl⟩
      have hqe:st.ks.idxOf t=q:=by rw [← Hq.out];first | rfl | (rw [← Jf])
      rw [hqe] at Ll;have HM:=Lib.hid hm;clear hm hqe;have c3:=eU Jd j hjr;have f3:=Jd.frozen j;have oN:=xI.row g1 j Jd (.int .i64 (q:Int)) (af _) hgB;have hR5:=Jd.set j q;rw [HSN.out q] at hR5;have hg5:=aJ hg4 (aB W3 g1 j (.int .i64 (q:Int))).size;have HX5:Hid (lJ w (W3.setCell ⟨g1,j,none⟩ (.int .i64 (q:Int))) tb g1 cell n st.ks a.nx a.ac (some ⟨g,0,none⟩) k2 pn c2 pa c3' us∧Row nV (W3.setCell ⟨g1,j,none⟩ (.int .i64 (q:Int))) g1 3 ((st.row++[q])++List.replicate (n - (j+1)) 0)∧g1+1≤(W3.setCell ⟨g1,j,none⟩ (.int .i64 (q:Int))).heap.size):=Lib.hid ⟨oN,hR5,hg5⟩
      have HS5:Hid (XS.Ok ok m {st with row:=st.row++[q]}∧(st.row++[q]).length=j+1∧∃z,st.ks=a.ks++z):=Lib.hid (by
       obtain ⟨h1,h2,h3⟩:=HST.out
       exact ⟨(IC h1 HTI.out Ll.out).1,by rw [eH,h2];rfl,h3⟩)
      clear xI Jd hg4 oN hR5 hg5
      go_wp2_with (first
       | ((with_reducible refine zL hs3.at lC rfl (C:=dh t) ?_))
       | (at_lookup;(with_reducible refine oI hmp ?_ (.tmp 57) (.tmp 58) ?_ kS Tryz.underlying340 Tryz.underlying3 (hz _) ?_ t Nf.out HM.out q Hq.out _ ?_ qh.out ?_);rfl;rfl;rfl;rfl))
      go_roundw
      case rel=>exact ⟨j+1,{st with row:=st.row++[q]},_,k2,by omega,by go_num,rfl,Lib.hid (ab1.out.trans Ll.out),HS5,HX5.out.1,HX5.out.2.1,HX5.out.2.2⟩
      case measure=>simp [intOf];omega
     ·rw [if_neg hm] at Ll;have HM:=Lib.hid hm;clear hm;by_cases hcap:st.ks.length=m
      ·rw [if_pos hcap] at Ll;have hci:(st.ks.length:Int)=(m:Int):=by omega
       have HE:Hid (vH cell bs start bU acc m K=none):=Lib.hid (by
        have h1:qj m bU s (bs.take (j+1)) ⟨a.ks,[]⟩=none:=ab1.out.trans Ll.out
        have h2:=Tg m bU s bs ⟨a.ks,[]⟩ (j+1) h1
        rw [HG.out,PW m bU acc bs K i a hlt hkK,Hs.out,h2];rfl)
       have hout:=xI.out;have HX4:=Lib.hid xI;have Vy:bR Tryz.prog 166 (bf ⟨List.replicate 256 0,0,[],[]⟩ on on).length:=by rw [aR _ _ (by simp)];exact iR
       have hZC:Tryz.zeroCells166=((bf ⟨List.replicate 256 0,0,[],[]⟩ on on).map oV).toArray:=by kernel_rfl
       clear xI
       go_wp2_with (first
        | ((with_reducible refine zL hs3.at lC rfl (C:=dh t) ?_))
        | (at_lookup;(with_reducible refine mX hmp ?_ (.tmp 57) (.tmp 58) ?_ kS Tryz.underlying340 Tryz.underlying3 (hz _) ?_ t Nf.out HM.out _ ?_ qh.out ?_);rfl;rfl;rfl;rfl)
        | ((with_reducible refine aF (f:=oV) (l:=bf ⟨List.replicate 256 0,0,[],[]⟩ on on) (l':=bf ⟨List.replicate 256 0,0,[],[]⟩ on on) (t:=166) (C:=Tryz.zeroCells166) Vy (.tmp 12) (.tmp 69) ?_ ?_ (tb+2) ?_ hZC ?_ hout rfl bC ?_);rfl;rfl;rfl;rfl;(intro W9 iH dw sN)))
       have dO:Below tb w W9:=HX4.out.fB.grown dw (by have:=HX4.out.sz;omega) (fun k e=>by injection e with e;omega);refine bodyPost_ret (v:= .tuple #[.agg ((bf ⟨List.replicate 256 0,0,[],[]⟩ on on).map oV).toArray, .bool false]) (bD (f:=oV) (l:=bf ⟨List.replicate 256 0,0,[],[]⟩ on on) (t:=13) rfl _ Vy (tb+2) 0 rfl iH.at) rfl ?_;refine ⟨by rw [dx.out];exact dO,?_⟩;rw [HE.out];exact rfl
      ·rw [if_neg hcap] at Ll;have hci:¬(st.ks.length:Int)=(m:Int):=by omega
       obtain ⟨Yr,Pe⟩:∃l,Hid (st.ks++[t]=l):=⟨_,Lib.hid rfl⟩
       obtain ⟨L,HL⟩:∃L,Hid (st.ks.length=L):=⟨_,Lib.hid rfl⟩
       have HO4:=Lib.hid xI.xW;have HX4:=Lib.hid xI;have HR4:=Lib.hid Jd;have hkl:st.ks.length<1000000000:=by omega
       have Hkl:=Lib.hid hkl;have Hl1:Hid ((st.ks.length+1) * 24≤140737488355328):=Lib.hid (by omega);have Hl2:Hid (st.ks.length+1≤140737488355328):=Lib.hid (by omega);clear xI Jd hkl
       go_wp2_with (first
        | ((with_reducible refine zL hs3.at lC rfl (C:=dh t) ?_))
        | (at_lookup;(with_reducible refine mX hmp ?_ (.tmp 57) (.tmp 58) ?_ kS Tryz.underlying340 Tryz.underlying3 (hz _) ?_ t Nf.out HM.out _ ?_ qh.out ?_);rfl;rfl;rfl;rfl)
        | (at_mapUpdate;(with_reducible refine C8 hmp ?_ (.tmp 70) (.tmp 71) (.tmp 72) ?_ kS Tryz.underlying340 Tryz.underlying3 LH M3 ?_ t Nf.out HM.out Hkl.out _ ?_ qh.out ?_ ?_);rfl;rfl;rfl;rfl;rfl;(intro W7 uu gB);(have hs7:=hs3.grown gB (by simp;omega));(have wY:=HO4.out.grown gB (fun g hg e=>by have:=(HO4.out.lt g hg).1;injection e with e;omega));(have vS:tb+5≤W7.heap.size:=aJ HX4.out.sz gB.size);(have xE:=HR4.out.grown gB (by simp;omega)))
        | ((with_reducible refine zL hs7.at lC rfl (C:=dh t) ?_))
        | (at_builtin;(with_reducible refine qM aev (by decide) CZ (.tmp 73) (.tmp 75) ?_ ?_ ?_ wY t (dh t) (kF t) 286 ?_ Hl1.out Hl2.out vS Yr Pe.out ?_);rfl;rfl;rfl;rfl;(intro p8 k8 W8 mP jf gW);(have TE:=(xE.alloc (.cells (dh t) 286)).grown gW (fun e=>HO4.out.row HR4.out (by decide) _ e.symm rfl));(have c3:=eU TE j hjr);(have f3:=TE.frozen j)))
       have HF:Hid (lJ w (W8.setCell ⟨g1,j,none⟩ (.int .i64 (st.ks.length:Int))) tb g1 cell n Yr a.nx a.ac p8 k8 pn c2 pa c3' us∧Row nV (W8.setCell ⟨g1,j,none⟩ (.int .i64 (st.ks.length:Int))) g1 3 ((st.row++[st.ks.length])++List.replicate (n - (j+1)) 0)∧g1+1≤(W8.setCell ⟨g1,j,none⟩ (.int .i64 (st.ks.length:Int))).heap.size):=Lib.hid (by
        rw [← Pe.out] at mP ⊢
        have h8:=HX4.out.add uu gB mP gW
        refine ⟨h8.row g1 j TE _ (af _) hgB,?_,?_⟩
        ·have h:=TE.set j st.ks.length
         rwa [HSN.out] at h
        ·have h1:=gB.size
         have h2:=gW.size
         rw [bO] at h2
         have h3:=(aB W8 g1 j (.int .i64 (st.ks.length:Int))).size
         omega)
       have HS6:Hid (XS.Ok ok m ⟨Yr,st.row++[st.ks.length]⟩∧(st.row++[st.ks.length]).length=j+1∧∃z,Yr=a.ks++z):=Lib.hid (by
        obtain ⟨h1,h2,z,h3⟩:=HST.out
        have h4:=(IC h1 HTI.out Ll.out).1
        rw [Pe.out] at h4
        exact ⟨h4,by rw [eH,h2];rfl,z++[t],by rw [← Pe.out,h3,zD]⟩)
       have HXE:Hid (qj m bU s (bs.take (j+1)) ⟨a.ks,[]⟩=some ⟨Yr,st.row++[st.ks.length]⟩):=Lib.hid (by rw [ab1.out,Ll.out,Pe.out]);clear uu gB hs7 wY vS xE mP jf gW TE c3 f3
       go_roundw
       case rel=>exact ⟨j+1,⟨Yr,st.row++[st.ks.length]⟩,p8,k8,by omega,by go_num,rfl,HXE,HS6,HF.out.1,HF.out.2.1,HF.out.2.2⟩
       case measure=>simp [intOf];omega
    ·obtain rfl:j=n:=by omega
     rw [D7,qcl,D8] at hR
     have HXE:Hid (qj m bU s bs ⟨a.ks,[]⟩=some st):=Lib.hid (by
      have h:=HXR.out
      rwa [pM (by rw [Hn.out];exact af _)] at h)
     obtain ⟨hS1,hS2,zz,uH⟩:=HST.out;have HS1:=Lib.hid hS1;have HS2:=Lib.hid hS2;have HS4:=Lib.hid uH;have afP:i<st.ks.length:=by rw [uH,eH];omega
     have hgi:st.ks[i]=s:=by
      rw [← Hs.out,dJ,bK hlt];simp only [uH];rw [JB hlt];rfl
     have Hgi:=Lib.hid hgi;clear hS1 hS2 uH hgi;have rQ:us.length=i:=by rw [lV hX.rows];exact HO.out.nl
     have afl:us.length≤65535:=by omega
     have c1B:wr.cell? ⟨tb+3,257,none⟩=some (.slice pn us.length c2):=by rw [hX.tab.cell?,show 257=256+1 from rfl,j6 _ _ qH.out];rfl
     have f1B:=hX.tab.frozen 257;have tX:=hX.sz;have hO3:=hX.next;obtain ⟨y,Hy⟩:∃y:OC,Hid (y.1= .slice (some ⟨g1,0,none⟩) j j):=⟨⟨.slice (some ⟨g1,0,none⟩) j j,rfl⟩,Lib.hid rfl⟩
     have hyo:Value.slice (some ⟨g1,0,none⟩) j j=oV y:=Hy.out.symm;obtain ⟨uS,Cg⟩:∃l,Hid (us++[y]=l):=⟨_,Lib.hid rfl⟩
     have Ue:=Lib.hid (hX.alloc (.cells #[.slice (some ⟨g1,0,none⟩) j j] 92)).tab;have SL:Hid (some (tb+3)≠(Value.slice pn us.length c2).ownBlock):=Lib.hid (fun e=>by have:=(hO3.lt _ e.symm).1;omega);have Hyo:=Lib.hid hyo;have HX:=Lib.hid hX;have HR:=Lib.hid hR;have Gx:=Lib.hid rQ;have hL1:Hid ((us.length+1) * 24≤140737488355328):=Lib.hid (by omega);have hL2:Hid (us.length+1≤140737488355328):=Lib.hid (by omega);clear hyo rQ hX hR;go_upto_region 22 with (at_builtin;(with_reducible refine fq S9 (.tmp 83) (.tmp 85) ?_ ?_ bC ?_ hO3 y _ ?_ _ ?_ hL1.out hL2.out tX uS Cg.out ?_);rfl;rfl;rfl;(exact Hyo.out);rfl;(intro p8 c8 W8 mP jf gW);(have J9:=Ue.out.grown gW SL.out);(have Rk:W8.cell? ⟨tb+3,257,none⟩=some (.slice pn us.length c2):=by rw [J9.cell?,show 257=256+1 from rfl,j6 _ _ qH.out];rfl);(have RU:=J9.frozen 257))
     have nH:lJ w (W8.setCell ⟨tb+3,257,none⟩ (.slice p8 uS.length c8)) tb W8.heap.size cell j st.ks (a.nx++[st.row]) a.ac p2 k2 p8 c8 pa c3' uS:=by
      rw [← Cg.out] at mP ⊢;have hgs:=gW.size;rw [bO] at hgs;have hNN:=HX.out.nN;exact HX.out.BA HR.out hgB (by rw [HS2.out];omega) qH.out (by rw [HS2.out];exact Hy.out) mP gW (by omega) (by omega) (af _)
     generalize (W8.setCell ⟨tb+3,257,none⟩ (.slice p8 uS.length c8))=mV at nH ⊢;obtain ⟨N2,o9⟩:∃N2,Hid (W8.heap.size=N2):=⟨_,Lib.hid rfl⟩
     rw [o9.out] at nH;clear J9 Rk RU mP gW jf hO3 c1B f1B tX;obtain ⟨g,rfl,hgl,hat⟩:=gp CZ nH.xW i afP;rw [Hgi.out] at hat;have hiq:(i:Int)<(st.ks.length:Int):=by omega
     have hBW:Below w.heap.size w mV:=by rw [dx.out];exact nH.fB
     have ht3:=nH.tab.lt
     have hcp:∀X,Below mV.heap.size mV X→X.cell? ⟨tb+3,258,none⟩=some (.slice pa a.ac.length c3'):=fun X h=>by
      rw [(nH.tab.below h ht3).cell?,show 258=256+2 from rfl,j6 _ _ qH.out];rfl
     have hwz:w.heap.size≤mV.heap.size:=hBW.size;have agY:=nH.sz;have ZN:=Lib.hid nH;clear nH;refine aC (S:=fun X=>Below mV.heap.size mV X) 9 rfl (by kernel_rfl) (ak _ _).drew fun hS=> ?_;refine tk 0 88 (.pointer (some ⟨tb+3,258,none⟩)) hS ?_;refine tk 1 89 (.slice pa a.ac.length c3') hS ?_ rfl (qi fun W' h=>by have q0:=hcp W' h;go_simp);refine tk 2 90 (.func (.func ga) #[] ca) hS ?_;refine tk 3 91 (.slice (some ⟨g,0,none⟩) st.ks.length k2) hS ?_;refine tk 4 92 (.int .i64 i) hS ?_;refine tk 5 93 (.pointer (some ⟨g,i * 3,none⟩)) hS ?_ rfl yg;refine tk 6 94 (.agg (dh s)) hS ?_ rfl (aA (f:=oV) (l:=ji s) lC (.tmp 93) rfl g (i * 3) rfl (fun W' h=>hat.below h hgl) rfl rfl);refine iT 7 (fun K' hK=> ?_);refine Eh (d:=95) (g:=ga) (args:= #[.agg (dh s)]++ca) rfl rfl (by simp [execOp,resolve,invoke,Act.eval,HA.out.en,Deferred.ofValue]) ?_;refine (HA.out.ca _ (hBW.drew) s HSI.out).mono ?_;rintro e Wb ⟨rfl,hBb⟩;obtain ⟨z,Hz⟩:∃z,Hid (acc s=z):=⟨_,Lib.hid rfl⟩
     rw [Hz.out];have hS2:=hS.trans (hBb.mono hS.size);refine ⟨_,rfl,hK.out _ _ hS2 fun _=> ?_⟩;simp only [sA,sB,sC];have WI:=ZN.out.under hS2;have agE:mV.heap.size≤Wb.heap.size:=hS2.size;clear hK hBb hcp hat;refine iT 8 (fun K' hK=> ?_);refine adF (d:=96) (v:= .slice (some ⟨Wb.heap.size,0,none⟩) 1 1) (w':=Wb.alloc (.cells #[.bool z] 4)) rfl rfl (by go_simp) ?_;have dY:Below mV.heap.size mV (Wb.alloc (.cells #[.bool z] 4)):=hS2.alloc hS2.size _;refine hK.out _ _ dY fun _=> ?_;clear hK;simp only [sA,sB,sC];refine aL (by kernel_rfl) ?_;simp only [List.drop];obtain ⟨DJ,yx⟩:∃l,Hid (a.ac++[z]=l):=⟨_,Lib.hid rfl⟩
     have adB:a.ac.length=i:=HO.out.al;have hA1:(a.ac.length+1) * 1≤140737488355328:=by omega
     have hA2:a.ac.length+1≤140737488355328:=by omega
     refine fq NF (.tmp 89) (.tmp 96) rfl rfl NQ rfl WI.acc z (.bool z) rfl 4 rfl hA1 hA2 WI.sz DJ yx.out ?_;intro p9 c9 W9 BF GM dw
     have aag:lJ w (W9.setCell ⟨tb+3,258,none⟩ (.slice p9 DJ.length c9)) tb N2 cell j st.ks (a.nx++[st.row]) DJ (some ⟨g,0,none⟩) k2 p8 c8 p9 c9 uS:=by
      rw [← yx.out] at BF ⊢;exact WI.Cn qH.out BF dw
     have DZ:=(WI.tab.alloc (.cells #[.bool z] 4)).grown dw (fun e=>by have:=(WI.acc.lt _ e.symm).1;omega);have c9B:W9.cell? ⟨tb+3,258,none⟩=some (.slice pa a.ac.length c3'):=by rw [DZ.cell?,show 258=256+2 from rfl,j6 _ _ qH.out];rfl
     have f9B:=DZ.frozen 258
     have HG1:Hid (vH cell bs start bU acc m K=(xF m bU acc bs (K - (i+1)) (i+1) ⟨st.ks,a.nx++[st.row],DJ⟩).map fun a=>⟨cell,bs.length,a.nx,a.ac⟩):=Lib.hid (by
      rw [HG.out,PW m bU acc bs K i a hlt hkK,Hs.out,HXE.out,← yx.out,← Hz.out];rfl)
     have HO1:Hid (XA.Ok ok m j (i+1) ⟨st.ks,a.nx++[st.row],DJ⟩):=Lib.hid (by
      have h:=HO.out
      rw [← Hn.out] at h ⊢
      have h2:=Rt h HNX.out hlt (by rw [Hs.out];exact HXE.out) z
      rw [yx.out] at h2
      exact h2)
     clear BF GM dw DZ WI hS hS2 dY;go_wp2_with fail
     go_roundw
     case rel=>exact ⟨i+1,⟨st.ks,a.nx++[st.row],DJ⟩,some ⟨g,0,none⟩,k2,p8,c8,p9,c9,uS,N2,by go_num,rfl,HG1,HO1,aag⟩
     case measure=>simp [intOf];omega
  ·have hq:¬(i:Int)<(a.ks.length:Int):=by omega
   have HE:Hid (vH cell bs start bU acc m K=some ⟨cell,n,a.nx,a.ac⟩):=Lib.hid (by rw [HG.out,acP _ _ _ _ _ _ _ (by omega),← Hn.out];rfl);have htab:=hX.tab;have hout:=hX.out;have HX:=Lib.hid hX;have rQ:us.length=a.nx.length:=lV hX.rows;have Gx:=Lib.hid rQ;clear hX rQ;obtain ⟨L3,xR⟩:∃l:List OC,Hid (l=bf ⟨cell,n,[],[]⟩ ⟨.slice pn us.length c2,rfl⟩ ⟨.slice pa a.ac.length c3',rfl⟩):=⟨_,Lib.hid rfl⟩
   rw [← xR.out] at htab;obtain ⟨C3,PN⟩:∃C,Hid (C=(L3.map oV).toArray):=⟨_,Lib.hid rfl⟩
   have hL3:L3.length=259:=by rw [xR.out];exact aR _ _ qH.out
   have hA3:bR Tryz.prog 166 L3.length:=by rw [hL3];exact iR
   have hLz:L3.length=(bf ⟨List.replicate 256 0,0,[],[]⟩ on on).length:=by rw [hL3,aR _ _ (by simp)]
   go_wp2_with (first
    | ((with_reducible refine zL htab.at hA3 PN.out ?_))
    | ((with_reducible refine aF (f:=oV) (l:=bf ⟨List.replicate 256 0,0,[],[]⟩ on on) (l':=L3) (t:=166) (C:=C3) hA3 (.tmp 12) (.tmp 99) ?_ ?_ (tb+2) ?_ PN.out ?_ hout hLz bC ?_);rfl;rfl;rfl;rfl;(intro W9 iH dw sN)))
   have dO:Below tb w W9:=HX.out.fB.grown dw (by have:=HX.out.sz;omega) (fun k e=>by injection e with e;omega);refine bodyPost_ret (v:= .tuple #[.agg (L3.map oV).toArray, .bool true]) (bD (f:=oV) (l:=L3) (t:=13) rfl _ hA3 (tb+2) 0 rfl iH.at) rfl ?_;have ZV:=HX.out.next.kept dw (fun g hg e=>by have:=(HX.out.next.lt g hg).1;injection e with e;omega);have ZM:=HX.out.acc.kept dw (fun g hg e=>by have:=(HX.out.acc.lt g hg).1;injection e with e;omega);refine ⟨by rw [dx.out];exact dO,?_⟩;rw [HE.out];refine ⟨⟨.slice pn us.length c2,rfl⟩,⟨.slice pa a.ac.length c3',rfl⟩,by rw [xR.out];rfl,fun X hX=>⟨?_,(Mem.Own.wC ZM hX (by decide)).rd⟩,qH.out⟩;rcases (Mem.Own.wC ZV hX (by decide)).rd with ⟨p0,e0,e1⟩ | ⟨b1,o1,c1,e1,e2,e3,e4⟩
   ·refine .inl ⟨p0,e0,?_⟩;have rQ:=Gx.out;rw [e1] at rQ;exact xJ.1 rQ.symm
   ·refine .inr ⟨b1,o1,c1,by rw [← Gx.out];exact e1,by rw [← Gx.out];exact e2,fun k hk=> ?_,e4⟩;have Cj:k<us.length:=by rw [Gx.out];exact hk
    obtain ⟨g,u1,u2,u3,_,u6⟩:=G9 HX.out.rows k Cj hk;refine ⟨us[k].1,?_,?_⟩
    ·have h:=e3 k Cj;rw [bK Cj] at h;exact h
    ·rw [u1];exact (l9 (base:=0) (Mem.Row.wC (u2.grown dw (fun e=>by injection e with e;omega)) hX (by decide)) (LC _) (by unfold maxLen;show a.nx[k].length≤_;omega)).rd
theorem tF {α:Type} {f:α→Value} {w:World} {l:List α} {P:Program} {ops:Array Oper} {rest:List Oper} {o:Oper} {a:Act} {Q:Exit→Act→World→Prop} {ty:TypeId} (T:bR P ty l.length) (x:Operand)
  (hw:Region.wanted o (yielded ops a.tmps)=true) (ho:o.op= .load ty x) (b off:Nat) (hx:a.eval x= .pointer (some ⟨b,off,none⟩)) (h:At f w b off l)
  {C:Array Value} (hC:C=(l.map f).toArray) (hk:wpList P ops Q rest (a.put o.dst (.agg C)) w):wpList P ops Q (o::rest) a w:=by
 subst hC;refine wpList_step fun K hK=> ?_;rw [if_pos hw];unfold Oper.wp execOp;simp only [ho,hx,Instr.loadAt,Instr.sureAddr,dS,iE,fK,iP T h];exact hK _ _ hk
structure R8 (w:World) (b:Nat) (C:Array Value) (T:TB) (L:List OC):Prop where
 row:Row oV w b 166 L
 ce:C=(L.map oV).toArray
 at':kz w C T
 len:L.length=259
theorem R8.below {w w':World} {b:Nat} {C:Array Value} {T:TB} {L:List OC} (h:R8 w b C T L) (hb:Below w.heap.size w w'):R8 w' b C T L:=⟨h.row.below hb h.row.lt,h.ce,h.at'.below hb,h.len⟩
theorem kz.list {w:World} {C:Array Value} {T:TB} (h:kz w C T):∃L:List OC,C=(L.map oV).toArray∧L.length=259:=by
 obtain ⟨vn,va,h1,_,_,h3⟩:=h;exact ⟨_,h1,aR _ _ h3⟩
theorem Ou {X:World} {b:Nat} {s:Sx} (h:Row oV X b 286 (ji s)):At oV X b 2 [ow (Go.Proofs.YtncnfncglacheaaGreatDoor.X s.2.2)]:=fun i hi=>by
 have:i=0:=by simpa using hi
 subst this;rw [h.cell?];rfl
theorem tN:bR Tryz.prog 284 1:=⟨fun _=>by kernel_rfl,fun _=>by kernel_rfl⟩
theorem lX (s:UInt64):iZ s=(([ow (X s)]:List OC).map oV).toArray:=rfl
theorem WV (w:World) (xb:Nat) (C:Array Value) (T:TB) (L:List OC) (hB:R8 w xb C T L) (hT:T.Ok) (h64:T.nx.length≤64) (s:Sx) (c:Nat) (hc:c<256):
  Calls Tryz.prog 231 #[.agg (dh s), .int .i64 (c:Int), .pointer (some ⟨xb,0,none⟩)] w fun e w'=>e= .returned (.agg (dh (uM T s c)))∧Below w.heap.size w w':=by
 have HT:=Lib.hid hT;have hA3:bR Tryz.prog 166 L.length:=by rw [hB.len];exact iR
 have hs0:Row oV (w.alloc (.cells (dh s) 286)) w.heap.size 286 (ji s):=Row.new _ _ (congrArg (fun C=>Obj.cells C 286) (kF s));go_enter Tryz.func231,Tryz.ntmps231;go_upto_region 1 with (fail);have h0:=hs0.alloc (.cells #[.int .i64 0, .int .i64 0, .int .u64 0] 286);have s0:(w.alloc (.cells (dh s) 286)).heap.size=w.heap.size+1:=bO _ _
 have r0:Row oV ((w.alloc (.cells (dh s) 286)).alloc (.cells #[.int .i64 0, .int .i64 0, .int .u64 0] 286)) (w.heap.size+1) 286 (ji jM):=by
  have h:=Row.new (f:=oV) (w.alloc (.cells (dh s) 286)) (t:=286) (l:=ji jM) (.cells #[.int .i64 0, .int .i64 0, .int .u64 0] 286) rfl
  rwa [s0] at h
 have b0:Below w.heap.size w ((w.alloc (.cells (dh s) 286)).alloc (.cells #[.int .i64 0, .int .i64 0, .int .u64 0] 286)):=((ak _ _).alloc (af _) _).alloc (by rw [s0];omega) _;have HB:=Lib.hid hB;clear hB hs0 s0;generalize ((w.alloc (.cells (dh s) 286)).alloc (.cells #[.int .i64 0, .int .i64 0, .int .u64 0] 286))=W at h0 r0 b0 ⊢;have hb1:=HB.out.below b0;have ha:=Ou h0;obtain ⟨tg,Hto⟩:∃o,Hid (T.targets s.2.2 c=o):=⟨_,Lib.hid rfl⟩
 have hcl:=Mg W C T hb1.at' hT h64 s.2.2 c hc;rw [Hto.out] at hcl;have MP:=hb1.row.at;have hw0:=hb1.row.lt;have hbs:=b0.size;have qH:=Lib.hid hcl;clear hcl
 go_upto_region 2 with (first
  | ((with_reducible refine aN (f:=oV) (l:=L) (C:=C) hA3 (.tmp 2) ?_ ?_ xb 0 ?_ MP HB.out.ce ?_);rfl;rfl;rfl)
  | ((with_reducible refine aN (f:=oV) (l:=[ow (X s.2.2)]) (C:=iZ s.2.2) tN (.tmp 8) ?_ ?_ w.heap.size 2 ?_ ha (lX _) ?_);rfl;rfl;rfl)
  | (go_at_call 183;refine qH.out.mono ?_;rintro e W2 ⟨rfl,hB2⟩;(have hz2:Row oV (W2.alloc (.cells #[.int .u64 0] 284)) W2.heap.size 284 [ow (X 0)]:=Row.new _ _ rfl))
  | ((with_reducible refine aF (f:=oV) (l:=[ow (X 0)]) (l':=[ow (X tg)]) (t:=284) (C:=iZ tg) tN (.tmp 6) (.tmp 11) ?_ ?_ W2.heap.size ?_ (lX _) ?_ hz2 rfl bC ?_);rfl;rfl;rfl;rfl;(intro W3 hs3 hG3 hz3)))
 have bW:Below W.heap.size W W3:=hB2.trans ((((ak _ _).alloc (af _) _).grown hG3 (by rw [bO];omega) (fun k e=>by injection e with e;omega)).mono hB2.size);have r3:=r0.below bW r0.lt;have b3:Below w.heap.size w W3:=b0.trans (bW.mono hbs);have hb3:=HB.out.below b3;have aee:W3.cell? ⟨W2.heap.size,0,none⟩=some (.int .u64 (X tg)):=hs3.cell? 0;have aeo:=hs3.frozen 0;have hne:w.heap.size+1≠W2.heap.size:=by have:=r0.lt;have:=hB2.size;omega
 have hwk:w.heap.size≤W2.heap.size:=by have:=hB2.size;omega
 have aae:=hs3.lt;clear qH hb1 ha h0 r0 b0 MP hw0 hbs hB2 hz2 hG3 hz3 bW;obtain ⟨kb,vL⟩:∃k,Hid (W2.heap.size=k):=⟨_,Lib.hid rfl⟩
 rw [vL.out] at hs3 aee aeo hne hwk aae ⊢;clear vL;clear W2 W;obtain ⟨z,Hz⟩:∃z,Hid (T.some tg=z):=⟨_,Lib.hid rfl⟩
 have hcl:=SV W3 C T hb3.at' hT h64 tg;rw [Hz.out] at hcl;have adg:=hb3.row.at;have HcL:=Lib.hid hcl;clear hcl;have HN:Hid (uM T s c=if z=true then (0,0,tg ||| 1) else (0,0,tg)):=Lib.hid (by unfold uM;rw [Hto.out,Hz.out]);have hor:bits .or .u64 (X tg) 1=X (tg ||| 1):=Jh tg 1;obtain ⟨o1,Ho1⟩:∃o,Hid (tg ||| 1=o):=⟨_,Lib.hid rfl⟩
 rw [Ho1.out] at hor HN
 go_upto_if 14 with (first
  | ((with_reducible refine aN (f:=oV) (l:=L) (C:=C) hA3 (.tmp 2) ?_ ?_ xb 0 ?_ adg HB.out.ce ?_);rfl;rfl;rfl)
  | ((with_reducible refine aN (f:=oV) (l:=[ow (X tg)]) (C:=iZ tg) tN (.tmp 6) ?_ ?_ kb 0 ?_ hs3.at (lX _) ?_);rfl;rfl;rfl)
  | (go_at_call 186;refine HcL.out.mono ?_;rintro e W4 ⟨rfl,hB4⟩))
 have hs4:=hs3.below hB4 aae;have r4:=r3.below hB4 r3.lt;have b4:=b3.trans (hB4.mono b3.size);have c4:W4.cell? ⟨kb,0,none⟩=some (.int .u64 (X tg)):=hs4.cell? 0;have f4:=hs4.frozen 0;have hX:=fH tg;have hks:∀u:UInt64,Array.foldl (fun (cs:Array Value) (x:Value×Nat)=>cs.setIfInBounds (2+x.snd) x.fst) #[Value.int .i64 0,Value.int .i64 0,Value.int .u64 0] (iZ u).zipIdx 0 1=dh (0,0,u):=fun u=>rfl;have hkz:∀u:UInt64,(iZ u).size=1:=fun u=>rfl;clear hs3 aee aeo r3 b3 hb3 adg hB4 HB aae HcL;clear W3;cases z with
 | false=>
  have o9:=HN.out;rw [if_neg (by decide)] at o9;have o9:=Lib.hid o9;clear HN hor
  go_wp2_with (first
   | ((with_reducible refine aN (f:=oV) (l:=[ow (X tg)]) (C:=iZ tg) tN (.tmp 6) ?_ ?_ kb 0 ?_ hs4.at (lX _) ?_);rfl;rfl;rfl)
   | ((with_reducible refine aF (f:=oV) (l:=ji jM) (l':=ji (0,0,tg)) (t:=286) (C:=dh (0,0,tg)) lC (.tmp 5) (.tmp 20) ?_ ?_ (w.heap.size+1) ?_ (kF _) ?_ r4 rfl bC ?_);rfl;rfl;rfl;rfl;(intro W9 iH dw sN)))
  have dO:=b4.grown dw b4.size (fun k e=>by injection e with e;omega);refine bodyPost_ret (aQ (f:=oV) (l:=ji (0,0,tg)) rfl _ lC (w.heap.size+1) 0 rfl iH.at) rfl ?_;exact ⟨by rw [o9.out];rfl,dO⟩
 | true=>
  have o9:=HN.out;rw [if_pos rfl] at o9;have o9:=Lib.hid o9;clear HN;have hs5:Row oV (W4.setCell ⟨kb,0,none⟩ (.int .u64 (X o1))) kb 284 [ow (X o1)]:=hs4.set 0 (ow (X o1));have hg5:=aB W4 kb 0 (.int .u64 (X o1));have r5:=r4.grown hg5 (by simpa using hne);have b5:=b4.grown hg5 b4.size (fun k e=>by injection e with e;omega);clear hg5
  go_wp2_with (first
   | ((with_reducible refine aN (f:=oV) (l:=[ow (X o1)]) (C:=iZ o1) tN (.tmp 6) ?_ ?_ kb 0 ?_ hs5.at (lX _) ?_);rfl;rfl;rfl)
   | ((with_reducible refine aF (f:=oV) (l:=ji jM) (l':=ji (0,0,o1)) (t:=286) (C:=dh (0,0,o1)) lC (.tmp 5) (.tmp 20) ?_ ?_ (w.heap.size+1) ?_ (kF _) ?_ r5 rfl bC ?_);rfl;rfl;rfl;rfl;(intro W9 iH dw sN)))
  have dO:=b5.grown dw b5.size (fun k e=>by injection e with e;omega);refine bodyPost_ret (aQ (f:=oV) (l:=ji (0,0,o1)) rfl _ lC (w.heap.size+1) 0 rfl iH.at) rfl ?_;exact ⟨by rw [o9.out];rfl,dO⟩
theorem abm (w:World) (xb:Nat) (C:Array Value) (T:TB) (L:List OC) (hB:R8 w xb C T L) (hT:T.Ok) (h64:T.nx.length≤64) (s:Sx):
  Calls Tryz.prog 232 #[.agg (dh s), .pointer (some ⟨xb,0,none⟩)] w fun e w'=>e= .returned (.bool (s.1==1 || T.some s.2.2))∧Below w.heap.size w w':=by
 have hA3:bR Tryz.prog 166 L.length:=by rw [hB.len];exact iR
 have hs0:Row oV (w.alloc (.cells (dh s) 286)) w.heap.size 286 (ji s):=Row.new _ _ (congrArg (fun C=>Obj.cells C 286) (kF s));have b0:Below w.heap.size w (w.alloc (.cells (dh s) 286)):=(ak _ _).alloc (af _) _;have hB1:=hB.below b0;go_enter Tryz.func232,Tryz.ntmps232;go_upto_region 1 with (fail);generalize (w.alloc (.cells (dh s) 286))=W at hs0 b0 hB1 ⊢;have ha:=Ou hs0;have c0:W.cell? ⟨w.heap.size,0,none⟩=some (.int .i64 (s.1:Int)):=hs0.cell? 0;have MP:=hB1.row.at;have hcl:=SV W C T hB1.at' hT h64 s.2.2;obtain ⟨z,Hz⟩:∃z,Hid (T.some s.2.2=z):=⟨_,Lib.hid rfl⟩
 rw [Hz.out] at hcl;have qH:=Lib.hid hcl;have HC:=Lib.hid hB.ce;have HE:Hid ((s.1==1 || T.some s.2.2)=(s.1==1 || z)):=Lib.hid (by rw [Hz.out]);obtain ⟨b,Hb⟩:∃b,Hid ((s.1==1 || T.some s.2.2)=b):=⟨_,Lib.hid rfl⟩
 rw [Hb.out] at HE;clear hcl hB hB1 hs0;by_cases h1:s.1=1
 ·have hb:b=true:=by rw [HE.out,h1];rfl
  have hi:(s.1:Int)=1:=by omega
  subst hb;rw [hi] at c0;go_wp2_with fail;go_ret;exact ⟨by rw [Hb.out];rfl,b0⟩
 ·have hb:b=z:=by
   rw [HE.out,beq_eq_false_iff_ne.2 h1,DY]
  have hi:¬(s.1:Int)=1:=by omega
  have hd:((s.1:Int)==1)=false:=beq_eq_false_iff_ne.2 hi;clear hi;subst hb
  go_wp2_with (first
   | ((with_reducible refine tF (f:=oV) (l:=L) (C:=C) hA3 (.tmp 1) ?_ ?_ xb 0 ?_ MP HC.out ?_);rfl;rfl;rfl)
   | ((with_reducible refine tF (f:=oV) (l:=[ow (X s.2.2)]) (C:=iZ s.2.2) tN (.tmp 9) ?_ ?_ w.heap.size 2 ?_ ha (lX _) ?_);rfl;rfl;rfl))
  refine qH.out.mono ?_;rintro e W4 ⟨rfl,hB4⟩;go_wp2_with fail;go_ret;exact ⟨by rw [Hb.out];rfl,b0.trans (hB4.mono b0.size)⟩
theorem DC (x:TB) (s:Sx) (c:Nat):(uM x s c).1=0∧(uM x s c).2.1=0:=by
 unfold uM;split<;>exact ⟨rfl,rfl⟩
theorem acI {x y:TB} (c:Nat) (hc:c∈(Br x y).bs):c<256:=(jQ x.cell y.cell 256 (af _)).bb c hc
theorem Bp {D:DF} (h:D.V):(kT D).Ok∧(kT D).nx.length≤64:=by
 have h1:=(jD h.toOk).canon;refine ⟨jD h1.1,?_⟩;show (bP D).canon.nx.length≤64;have h2:(bP D).nx.length=D.nx.length:=rfl;have h3:=h.n64;have h4:=h1.2;omega
theorem aeG (w:World) (v:Value) (D:DF) (hv:dm w v D) (hV:D.V) (uj:gV w) (htl:1<w.heap.size):
  Calls Tryz.prog 192 #[v] w fun e w'=>∃v,e= .returned v∧fF w' v D.star∧Below w.heap.size w w':=by
 have HV:=Lib.hid hV;have HA:=Lib.hid hv;have Qz:=Lib.hid uj;obtain ⟨p1,k1,p2,k2,p3,k3,rfl⟩:=hv.parts;obtain ⟨n1,Z5⟩:∃n,Hid (D.cls.length=n):=⟨_,Lib.hid rfl⟩
 obtain ⟨n2,ZA⟩:∃n,Hid (D.nx.length=n):=⟨_,Lib.hid rfl⟩
 obtain ⟨n3,ZT⟩:∃n,Hid (D.ac.length=n):=⟨_,Lib.hid rfl⟩
 rw [Z5.out,ZA.out,ZT.out] at HA ⊢;clear hv hV uj;go_enter Tryz.func192,Tryz.ntmps192;go_upto_region 1 with (fail);have hD0:Row oV ((w.alloc (.cells #[.slice p1 n1 k1, .slice p2 n2 k2, .slice p3 n3 k3] 79)).alloc (.cells #[.slice none 0 0, .slice none 0 0, .slice none 0 0] 79)) w.heap.size 79 (bF p1 n1 k1 p2 n2 k2 p3 n3 k3):=(Row.new w (.cells #[.slice p1 n1 k1, .slice p2 n2 k2, .slice p3 n3 k3] 79) rfl).alloc _
 have iw:Row oV ((w.alloc (.cells #[.slice p1 n1 k1, .slice p2 n2 k2, .slice p3 n3 k3] 79)).alloc (.cells #[.slice none 0 0, .slice none 0 0, .slice none 0 0] 79)) (w.heap.size+1) 79 [on,on,on]:=by
  have h:=Row.new (f:=oV) (w.alloc (.cells #[.slice p1 n1 k1, .slice p2 n2 k2, .slice p3 n3 k3] 79)) (t:=79) (l:=[on,on,on]) _ rfl;rw [bO] at h;exact h
 have hB0:Below w.heap.size w ((w.alloc (.cells #[.slice p1 n1 k1, .slice p2 n2 k2, .slice p3 n3 k3] 79)).alloc (.cells #[.slice none 0 0, .slice none 0 0, .slice none 0 0] 79)):=((ak _ _).alloc (af _) _).alloc (by simp) _;generalize ((w.alloc (.cells #[.slice p1 n1 k1, .slice p2 n2 k2, .slice p3 n3 k3] 79)).alloc (.cells #[.slice none 0 0, .slice none 0 0, .slice none 0 0] 79))=W at hB0 hD0 iw ⊢;have hval:=He W _ D (HA.out.below hB0) HV.out;have aby:=Lib.hid hval;have iy:=Lib.hid htl;obtain ⟨tb,dx⟩:∃tb,Hid (w.heap.size=tb):=⟨_,Lib.hid rfl⟩
 rw [dx.out] at hB0 hD0 iw ⊢;clear hval htl
 go_upto_region 3 with (first
  | ((with_reducible refine aN (f:=oV) (l:=bF p1 n1 k1 p2 n2 k2 p3 n3 k3) (C:= #[.slice p1 n1 k1, .slice p2 n2 k2, .slice p3 n3 k3]) bN (.tmp 1) ?_ ?_ tb 0 ?_ hD0.at ?_ ?_);rfl;rfl;rfl;rfl)
  | (go_at_call 69;refine aby.out.mono ?_;rintro e Wb ⟨rfl,hBb⟩))
 have Xq:=hD0.below hBb hD0.lt;have hRb:=iw.below hBb iw.lt;have hRl:=iw.lt;have hBw:Below tb w Wb:=hB0.trans (hBb.mono (by omega));have Aw:Hid (gV Wb):=Lib.hid (Qz.out.below (by rw [dx.out];exact hBw) iy.out);have htab:=OJ Wb _ D (HA.out.below (by rw [dx.out];exact hBw)) HV.out.lY Aw.out;have U5:=Lib.hid htab;have yK:=Lib.hid (jD HV.out.toOk);have afH:Hid (1<Wb.heap.size):=Lib.hid (bJ iy.out hBw.size);obtain ⟨x,Hx⟩:∃x,Hid (kT D=x):=⟨_,Lib.hid rfl⟩
 have Yq:Hid (x.Ok∧x.nx.length≤64):=Lib.hid (by rw [← Hx.out];exact Bp HV.out);clear htab hD0 hB0 hBb iw;go_wp2_with ((with_reducible refine aN (f:=oV) (l:=bF p1 n1 k1 p2 n2 k2 p3 n3 k3) (C:= #[.slice p1 n1 k1, .slice p2 n2 k2, .slice p3 n3 k3]) bN (.tmp 1) ?_ ?_ tb 0 ?_ Xq.at ?_ ?_);rfl;rfl;rfl;rfl);refine U5.out.mono ?_;rintro e Wc ⟨C,rfl,hC,jH⟩;go_wp2_with fail;refine (Hg Wc C _ hC yK.out).mono ?_;rintro e Wd ⟨v,rfl,hv,hBd⟩;have Sn:=OJ Wd v (bP D).canon hv yK.out.canon.1.lY (Aw.out.below (jH.trans (hBd.mono jH.size)) afH.out);rw [show bP (bP D).canon=x from Hx.out] at Sn;have aao:=Lib.hid Sn;have RI:Below Wb.heap.size Wb Wd:=jH.trans (hBd.mono jH.size);clear Sn hC hv jH hBd U5;go_wp2_with fail;refine aao.out.mono ?_;rintro e We ⟨C2,rfl,hC2,hBe⟩;obtain ⟨L2,hL2,hl2⟩:=hC2.list;have HL2:=Lib.hid hL2;have hA3:bR Tryz.prog 166 L2.length:=by rw [hl2];exact iR
 have hLz:L2.length=(bf ⟨List.replicate 256 0,0,[],[]⟩ on on).length:=by rw [hl2,aR _ _ (by simp)]
 have Hl2:=Lib.hid hl2;have KZ:Row oV (We.alloc (.cells fP 166)) We.heap.size 166 (bf ⟨List.replicate 256 0,0,[],[]⟩ on on):=Row.new _ _ rfl;have HC2:=Lib.hid hC2;clear hL2 hl2 hC2 aao
 go_upto_region 4 with (first
  | ((with_reducible refine gy (t:=166) fP uq ?_ ?_ We.heap.size ?_ ?_);rfl;rfl;rfl)
  | ((with_reducible refine aF (f:=oV) (l:=bf ⟨List.replicate 256 0,0,[],[]⟩ on on) (l':=L2) (t:=166) (C:=C2) hA3 (.tmp 4) (.tmp 17) ?_ ?_ We.heap.size ?_ HL2.out ?_ KZ hLz bC ?_);rfl;rfl;rfl;rfl;(intro Wf hsf hGf hzf)))
 have Gi:Below We.heap.size We (We.alloc (.cells fP 166)):=(ak _ _).alloc (af _) _;have hbF:Below We.heap.size We Wf:=Gi.grown hGf (by rw [bO];omega) (fun k e=>by injection e with e;omega);have dO:Below Wb.heap.size Wb Wf:=(RI.trans (hBe.mono RI.size)).trans (hbF.mono (aJ RI.size hBe.size));have afs:kz Wf C2 x:=HC2.out.below hbF;have Q7:R8 Wf We.heap.size C2 x L2:=⟨hsf,HL2.out,afs,Hl2.out⟩
 have hDf:=Xq.below dO Xq.lt;have Oi:=hRb.below dO hRb.lt;have ac7:Below tb w Wf:=hBw.trans (dO.mono (by have:=hRb.lt;omega));have agK:=hRb.lt;have hwe:Wb.heap.size≤We.heap.size:=aJ RI.size hBe.size;have hwf:=hsf.lt;clear Gi hbF KZ hGf hzf RI hBe HC2 Xq dO;obtain ⟨xb,Hxb⟩:∃b,Hid (We.heap.size=b):=⟨_,Lib.hid rfl⟩
 rw [Hxb.out] at hsf Q7 hwe hwf ⊢;clear Hxb hLz;clear We Wd Wc;obtain ⟨J,HJ⟩:∃J,Hid (Br x x=J):=⟨_,Lib.hid rfl⟩
 have Yz:∀c∈x.cell,c<65536:=fun c hc=>by have h1:=Yq.out.1.cb c hc;have h2:=Yq.out.1.lY;omega
 have hjo:=UK Wf C2 C2 x x Q7.at' Q7.at' Yz Yz;rw [HJ.out] at hjo;have Hjo:=Lib.hid hjo;have hJk:JS.Ok 256 J:=by rw [← HJ.out];exact jQ _ _ 256 (af _)
 have adN:1≤J.bs.length:=by rw [← HJ.out];exact wO _ _ 255
 have vM:=Lib.hid hJk;have aaY:=Lib.hid adN;have HTB:=Lib.hid Q7;clear Yz hjo hJk adN Q7;go_wp2_with ((with_reducible refine aN (f:=oV) (l:=L2) (C:=C2) hA3 (.tmp 4) ?_ ?_ xb 0 ?_ hsf.at HL2.out ?_);rfl;rfl;rfl);refine Hjo.out.mono ?_;rintro e Wg ⟨pj,cj,rfl,ZW,hBg⟩;have hAJ:bR Tryz.prog 152 J.cell.length:=by rw [vM.out.cl];exact OP
 have hzl:J.cell.length=(List.replicate 256 0).length:=by rw [vM.out.cl,SY]
 have rc:=H7 (w:=Wg) rfl
 go_upto_region 5 with (first
  | ((with_reducible refine gy (t:=152) mE BQ ?_ ?_ Wg.heap.size ?_ ?_);rfl;rfl;rfl)
  | ((with_reducible refine aF (f:=nV) (l:=List.replicate 256 0) (l':=J.cell) (t:=152) (C:=wT J.cell) hAJ (.tmp 5) (.tmp 22) ?_ ?_ Wg.heap.size ?_ rfl ?_ rc hzl tL ?_);rfl;rfl;rfl;rfl;(intro Wh hsh hGh hzh)))
 have Gi:Below Wg.heap.size Wg (Wg.alloc (.cells mE 152)):=(ak _ _).alloc (af _) _;have Sd:Below Wg.heap.size Wg Wh:=Gi.grown hGh (by rw [bO];omega) (fun k e=>by injection e with e;omega);have Lm:Below Wf.heap.size Wf Wh:=hBg.trans (Sd.mono hBg.size);have aaJ:=HTB.out.below Lm;have hRh:=Oi.below Lm Oi.lt;have adf:Below tb w Wh:=ac7.trans (Lm.mono (by have:=Oi.lt;omega));have hOh:=(ZW.below' Sd).rd;have ags:=hsh;have agk:=hRh.lt;clear hsf hDf Oi hRb hBw ac7 ZW hBg rc hGh hzh Gi Sd Lm;obtain ⟨cb,Pt⟩:∃b,Hid (Wg.heap.size=b):=⟨_,Lib.hid rfl⟩
 rw [Pt.out] at hsh ⊢;clear Pt ags;clear Wg;have hBs:∀c∈J.bs,c<256:=fun c hc=>vM.out.bb c hc
 have hcb:∀c∈J.cell,c<J.bs.length:=fun c hc=>by
  have h1:=vM.out.cb c hc;have h2:=vM.out.bl;have h3:=aaY.out;omega
 have Bc:NxC Wh 231 #[.pointer (some ⟨xb,0,none⟩)] ql J.bs (uM x):=⟨fun args w=>by kernel_rfl,fun X hX s _ c hc=>WV X xb C2 x L2 (aaJ.below hX) Yq.out.1 Yq.out.2 s c (hBs c hc)⟩
 have hAc:AcC Wh 232 #[.pointer (some ⟨xb,0,none⟩)] ql (fun s=>s.1==1 || x.some s.2.2):=⟨fun args w=>by kernel_rfl,fun X hX s _=>abm X xb C2 x L2 (aaJ.below hX) Yq.out.1 Yq.out.2 s⟩
 have hex:=MJ Wh (wT J.cell) J.cell rfl vM.out.cl _ J.bs hOh vM.out.le ql (1,0,1) ⟨by decide,by decide⟩ (fun _ h=>h) (uM x) (fun s=>s.1==1 || x.some s.2.2) (fun s _ c _=>by obtain ⟨h1,h2⟩:=DC x s c;exact ⟨by rw [h1];decide,by rw [h2];decide⟩) _ _ _ _ Bc hAc 4096 4096 (by decide) (by decide) (fun l h=>h.le) (by decide);have hse:vH J.cell J.bs (1,0,1) (uM x) (fun s=>s.1==1 || x.some s.2.2) 4096 4096=Er x:=by unfold Er;rw [HJ.out]
 obtain ⟨S,zC⟩:∃S,Hid (Er x=S):=⟨_,Lib.hid rfl⟩
 rw [zC.out] at hse;rw [hse] at hex;have Hse:=Lib.hid hse;have Hex:=Lib.hid hex;have HBs:=Lib.hid hBs;have Pt:=Lib.hid hcb;clear Bc hAc hex hse hBs hcb hOh aaJ;have h1k:Array.foldl (fun (cs:Array Value) (x:Value×Nat)=>cs.setIfInBounds (2+x.snd) x.fst) #[Value.int .i64 1,Value.int .i64 0,Value.int .u64 0] #[Value.int .u64 1].zipIdx 0 1=dh (1,0,1):=rfl;go_wp2_with ((with_reducible refine aN (f:=nV) (l:=J.cell) (C:=wT J.cell) hAJ (.tmp 5) ?_ ?_ cb 0 ?_ hsh.at rfl ?_);rfl;rfl;rfl);refine Hex.out.mono ?_;rintro e Wi ⟨hBi,hE⟩;have hRi:=hRh.below hBi agk;have ads:Below tb w Wi:=adf.trans (hBi.mono (by omega));have adG:=hRi.lt;have HSt:Hid (D.star=UH S):=Lib.hid (by unfold DF.star;rw [Hx.out,zC.out]);have KZ:Row oV (Wi.alloc (.cells fP 166)) Wi.heap.size 166 (bf ⟨List.replicate 256 0,0,[],[]⟩ on on):=Row.new _ _ rfl;have Gi:Below Wi.heap.size Wi (Wi.alloc (.cells fP 166)):=(ak _ _).alloc (af _) _;have hs8:(Wi.alloc (.cells fP 166)).heap.size=Wi.heap.size+1:=bO _ _;clear Hex hBi hRh adf hsh h1k;have Vy:bR Tryz.prog 166 (bf ⟨List.replicate 256 0,0,[],[]⟩ on on).length:=by rw [aR _ _ (by simp)];exact iR
 cases SH:S with
 | none=>
  rw [SH] at hE;have HE2:Hid (D.star= .error 2):=Lib.hid (by rw [HSt.out,SH];rfl);cases hE;clear SH
  go_wp2_with (first
   | ((with_reducible refine gy (t:=166) fP uq ?_ ?_ Wi.heap.size ?_ ?_);rfl;rfl;rfl)
   | ((with_reducible refine aF (f:=oV) (l:=bf ⟨List.replicate 256 0,0,[],[]⟩ on on) (l':=bf ⟨List.replicate 256 0,0,[],[]⟩ on on) (t:=166) (C:=fP) Vy (.tmp 8) (.tmp 33) ?_ ?_ Wi.heap.size ?_ rfl ?_ KZ rfl bC ?_);rfl;rfl;rfl;rfl;(intro Wj hsj hGj hzj);(have Ty:Below Wi.heap.size Wi Wj:=Gi.grown hGj (by omega) (fun k e=>by injection e with e;omega));(have hRj:=hRi.below Ty adG))
   | ((with_reducible refine aF (f:=oV) (l:=[on,on,on]) (l':=[on,on,on]) (t:=79) (C:= #[.slice none 0 0, .slice none 0 0, .slice none 0 0]) bN (.tmp 2) (.tmp 37) ?_ ?_ (tb+1) ?_ ?_ ?_ hRj ?_ bC ?_);rfl;rfl;rfl;rfl;rfl;rfl;(intro W9 iH dw sN)))
  have dO:Below tb w W9:=(ads.trans (Ty.mono (by omega))).grown dw (by have:=hRj.lt;omega) (fun k e=>by injection e with e;omega);refine bodyPost_ret (v:= .tuple #[.agg #[.slice none 0 0, .slice none 0 0, .slice none 0 0], .int .i64 2]) (bD (f:=oV) (l:=[on,on,on]) (t:=3) rfl _ bN (tb+1) 0 rfl iH.at) rfl ?_;exact ⟨_,rfl,by rw [HE2.out];rfl,by rw [dx.out];exact dO⟩
 | some T=>
  rw [SH] at hE;have HE2:Hid (D.star=lim T):=Lib.hid (by rw [HSt.out,SH];rfl)
  have uP:Hid T.Ok:=Lib.hid (by
   have h:=Hse.out.trans SH
   exact Dn (ok:=ql) (K:=4096) ⟨by decide,by decide⟩ (by decide) (fun s _ c _=>by obtain ⟨h1,h2⟩:=DC x s c;exact ⟨by rw [h1];decide,by rw [h2];decide⟩) (fun l h=>h.le) (by decide) vM.out.cl vM.out.le Pt.out h)
  obtain ⟨C5,rfl,hC5⟩:∃C,e= .returned (.tuple #[.agg C, .bool true])∧kz Wi C T:=by
   obtain ⟨tn,ta,h1,h2,h3⟩:=hE;exact ⟨_,h1,tn,ta,rfl,(h2 _ (dL.refl _)).1,(h2 _ (dL.refl _)).2,h3⟩
  obtain ⟨L5,hL5,hl5⟩:=hC5.list;have HL5:=Lib.hid hL5;have T9:bR Tryz.prog 166 L5.length:=by rw [hl5];exact iR
  have af5:L5.length=(bf ⟨List.replicate 256 0,0,[],[]⟩ on on).length:=by rw [hl5,aR _ _ (by simp)]
  have HC5:=Lib.hid hC5;clear hL5 hl5 hC5 SH
  go_wp2_with (first
   | ((with_reducible refine gy (t:=166) fP uq ?_ ?_ Wi.heap.size ?_ ?_);rfl;rfl;rfl)
   | ((with_reducible refine aF (f:=oV) (l:=bf ⟨List.replicate 256 0,0,[],[]⟩ on on) (l':=L5) (t:=166) (C:=C5) T9 (.tmp 8) (.tmp 33) ?_ ?_ Wi.heap.size ?_ HL5.out ?_ KZ af5 bC ?_);rfl;rfl;rfl;rfl;(intro Wj hsj hGj hzj);(have Ty:Below Wi.heap.size Wi Wj:=Gi.grown hGj (by omega) (fun k e=>by injection e with e;omega));(have hRj:=hRi.below Ty adG))
   | ((with_reducible refine aN (f:=oV) (l:=L5) (C:=C5) T9 (.tmp 8) ?_ ?_ Wi.heap.size 0 ?_ hsj.at HL5.out ?_);rfl;rfl;rfl))
  refine (adL Wj C5 T (HC5.out.below Ty) uP.out).mono ?_;rintro e Wk ⟨v2,rfl,hv2,vF⟩;have agm:=hRj.lt;have hRk:=hRj.below vF agm;have Ju:Below tb w Wk:=(ads.trans (Ty.mono (by omega))).trans (vF.mono (by omega));obtain ⟨R,Kc⟩:∃R,Hid (lim T=R):=⟨_,Lib.hid rfl⟩
  rw [Kc.out] at hv2;have HE3:Hid (D.star=R):=Lib.hid (HE2.out.trans Kc.out);clear Ty hsj hGj hzj vF hRj KZ Gi;cases hds:R with
  | error n=>
   rw [hds] at hv2;have TV:Hid (D.star= .error n):=Lib.hid (HE3.out.trans hds);cases hv2;clear hds;go_wp2_with ((with_reducible refine aF (f:=oV) (l:=[on,on,on]) (l':=[on,on,on]) (t:=79) (C:= #[.slice none 0 0, .slice none 0 0, .slice none 0 0]) bN (.tmp 2) (.tmp 40) ?_ ?_ (tb+1) ?_ ?_ ?_ hRk ?_ bC ?_);rfl;rfl;rfl;rfl;rfl;rfl;(intro W9 iH dw sN));have dO:Below tb w W9:=Ju.grown dw (by have:=hRk.lt;omega) (fun k e=>by injection e with e;omega);refine bodyPost_ret (v:= .tuple #[.agg #[.slice none 0 0, .slice none 0 0, .slice none 0 0], .int .i64 (n:Int)]) (bD (f:=oV) (l:=[on,on,on]) (t:=3) rfl _ bN (tb+1) 0 rfl iH.at) rfl ?_;exact ⟨_,rfl,by rw [TV.out];rfl,by rw [dx.out];exact dO⟩
  | ok E=>
   rw [hds] at hv2;have TV:Hid (D.star= .ok E):=Lib.hid (HE3.out.trans hds)
   have HEO:Hid E.Ok:=Lib.hid (by
    have h:lim T= .ok E:=Kc.out.trans hds
    unfold lim at h
    split at h
    ·injection h with h;rw [← h];exact uP.out.canon.1
    ·cases h)
   obtain ⟨u,rfl,hu⟩:=hv2;obtain ⟨q1,j1,q2,j2,q3,j3,rfl⟩:=hu.parts;have HU:=Lib.hid hu;obtain ⟨m1,Hm1⟩:∃n,Hid (E.cls.length=n):=⟨_,Lib.hid rfl⟩
   obtain ⟨m2,Hm2⟩:∃n,Hid (E.nx.length=n):=⟨_,Lib.hid rfl⟩
   obtain ⟨m3,Hm3⟩:∃n,Hid (E.ac.length=n):=⟨_,Lib.hid rfl⟩
   rw [Hm1.out,Hm2.out,Hm3.out] at HU ⊢;clear hds hu;go_wp2_with ((with_reducible refine aF (f:=oV) (l:=[on,on,on]) (l':=bF q1 m1 j1 q2 m2 j2 q3 m3 j3) (t:=79) (C:= #[.slice q1 m1 j1, .slice q2 m2 j2, .slice q3 m3 j3]) bN (.tmp 2) (.tmp 40) ?_ ?_ (tb+1) ?_ ?_ ?_ hRk ?_ bC ?_);rfl;rfl;rfl;rfl;rfl;rfl;(intro W9 iH dw sN));have dO:Below tb w W9:=Ju.grown dw (by have:=hRk.lt;omega) (fun k e=>by injection e with e;omega);refine bodyPost_ret (v:= .tuple #[.agg #[.slice q1 m1 j1, .slice q2 m2 j2, .slice q3 m3 j3], .int .i64 0]) (bD (f:=oV) (l:=bF q1 m1 j1 q2 m2 j2 q3 m3 j3) (t:=3) rfl _ bN (tb+1) 0 rfl iH.at) rfl ?_;refine ⟨_,rfl,?_,by rw [dx.out];exact dO⟩;rw [TV.out];exact ⟨_,rfl,HU.out.avoid HEO.out hRk dw⟩
structure xH (w:World) (b:Nat) (T:TB) (vn va:OC):Prop where
 row:Row oV w b 166 (bf T vn va)
 h1:vW w vn.1 T.nx
 h2:Rd Value.bool w va.1 T.ac
 cl:T.cell.length=256
theorem xH.below {w w':World} {b:Nat} {T:TB} {vn va:OC} (h:xH w b T vn va) (hb:Below w.heap.size w w'):xH w' b T vn va:=⟨h.row.below hb h.row.lt,vW.below' h.h1 hb,h.h2.below hb,h.cl⟩
theorem xH.Zr {w:World} {b:Nat} {T:TB} {vn va:OC} (h:xH w b T vn va):R8 w b ((bf T vn va).map oV).toArray T (bf T vn va):=⟨h.row,rfl,⟨vn,va,rfl,h.h1,h.h2,h.cl⟩,aR _ _ h.cl⟩
theorem xH.ac {w:World} {b:Nat} {T:TB} {vn va:OC} (h:xH w b T vn va):w.cell? ⟨b,258,none⟩=some va.1:=by
 rw [h.row.cell?,show 258=256+2 from rfl,j6 _ _ h.cl];rfl
theorem xH.nx {w:World} {b:Nat} {T:TB} {vn va:OC} (h:xH w b T vn va):w.cell? ⟨b,257,none⟩=some vn.1:=by
 rw [h.row.cell?,show 257=256+1 from rfl,j6 _ _ h.cl];rfl
theorem xH.c {w:World} {b:Nat} {T:TB} {vn va:OC} (h:xH w b T vn va) (i:Nat) (hi:i<256):w.cell? ⟨b,i,none⟩=some (.int .i64 (T.cell.getD i 0:Nat)):=by
 rw [h.row.cell?,y9 vn va (by rw [h.cl];exact hi)];rfl
theorem Mt (w:World) (xb:Nat) (x:TB) (vn va:OC) (hQ:xH w xb x vn va) (hx:x.Ok) (s:Sx) (hs:s.1<x.nx.length):
  Calls Tryz.prog 181 #[.agg (dh s), .pointer (some ⟨xb,0,none⟩)] w fun e w'=>e= .returned (.agg (dh (tq x s)))∧Below w.heap.size w w':=by
 have hs0:Row oV (w.alloc (.cells (dh s) 286)) w.heap.size 286 (ji s):=Row.new _ _ (congrArg (fun C=>Obj.cells C 286) (kF s));go_enter Tryz.func181,Tryz.ntmps181;go_upto_region 1 with (fail);have h0:=hs0.alloc (.cells #[.int .i64 0, .int .i64 0, .int .u64 0] 286);have s0:(w.alloc (.cells (dh s) 286)).heap.size=w.heap.size+1:=bO _ _
 have r0:Row oV ((w.alloc (.cells (dh s) 286)).alloc (.cells #[.int .i64 0, .int .i64 0, .int .u64 0] 286)) (w.heap.size+1) 286 (ji jM):=by
  have h:=Row.new (f:=oV) (w.alloc (.cells (dh s) 286)) (t:=286) (l:=ji jM) (.cells #[.int .i64 0, .int .i64 0, .int .u64 0] 286) rfl
  rwa [s0] at h
 have b0:Below w.heap.size w ((w.alloc (.cells (dh s) 286)).alloc (.cells #[.int .i64 0, .int .i64 0, .int .u64 0] 286)):=((ak _ _).alloc (af _) _).alloc (by rw [s0];omega) _;clear hs0 s0;generalize ((w.alloc (.cells (dh s) 286)).alloc (.cells #[.int .i64 0, .int .i64 0, .int .u64 0] 286))=W at h0 r0 b0 ⊢;have hq:=hQ.below b0;obtain ⟨va,hva⟩:=va;have ca:=hq.ac;obtain ⟨pa,ka,rfl⟩:=hQ.h2.slice;have hal:x.ac.length=x.nx.length:=hx.ac;obtain ⟨n,Hn⟩:∃n,Hid (x.ac.length=n):=⟨_,Lib.hid rfl⟩
 have HA:=Lib.hid hQ.h2;have hsn:s.1<n:=by rw [← Hn.out,hal];exact hs
 rw [Hn.out] at ca HA;obtain ⟨ab,ao,rfl,hca⟩:=tZ HA.out s.1 hsn;have WO:=hca W b0;have hsi:(s.1:Int)<(n:Int):=by omega
 obtain ⟨z,Hz⟩:∃z,Hid (x.ac.getD s.1 false=z):=⟨_,Lib.hid rfl⟩
 rw [Hz.out] at WO;have HE:Hid (tq x s=if z=true then (s.1,s.2.1,s.2.2 ||| 1) else s):=Lib.hid (by unfold tq;rw [Hz.out]);have cs0:W.cell? ⟨w.heap.size,0,none⟩=some (.int .i64 (s.1:Int)):=h0.cell? 0;have cs2:W.cell? ⟨w.heap.size,2,none⟩=some (.int .u64 (X s.2.2)):=h0.cell? 2;have fs2:=h0.frozen 2;have hX:=fH s.2.2;have hor:bits .or .u64 (X s.2.2) 1=X (s.2.2 ||| 1):=Jh s.2.2 1;have hrl:=r0.lt;clear hca hq hQ hs hal hsn;cases z with
 | false=>
  have o9:=HE.out;rw [if_neg (by decide)] at o9;have o9:=Lib.hid o9;clear HE hor
  go_wp2_with (first
   | ((with_reducible refine zL h0.at lC (kF _) ?_))
   | ((with_reducible refine aF (f:=oV) (l:=ji jM) (l':=ji s) (t:=286) (C:=dh s) lC (.tmp 3) (.tmp 16) ?_ ?_ (w.heap.size+1) ?_ (kF _) ?_ r0 rfl bC ?_);rfl;rfl;rfl;rfl;(intro W9 iH dw sN)))
  have dO:=b0.grown dw b0.size (fun k e=>by injection e with e;omega);refine bodyPost_ret (aQ (f:=oV) (l:=ji s) rfl _ lC (w.heap.size+1) 0 rfl iH.at) rfl ?_;exact ⟨rfl,dO⟩
 | true=>
  have o9:=HE.out;rw [if_pos rfl] at o9;have o9:=Lib.hid o9;clear HE;obtain ⟨o1,Ho1⟩:∃o,Hid (s.2.2 ||| 1=o):=⟨_,Lib.hid rfl⟩
  rw [Ho1.out] at hor o9;have hs5:Row oV (W.setCell ⟨w.heap.size,2,none⟩ (.int .u64 (X o1))) w.heap.size 286 (ji (s.1,s.2.1,o1)):=h0.set 2 (ow (X o1));have hg5:=aB W w.heap.size 2 (.int .u64 (X o1));have r5:=r0.grown hg5 (by simp);have b5:=b0.grown hg5 b0.size (fun k e=>by injection e with e;omega);clear hg5
  go_wp2_with (first
   | ((with_reducible refine zL hs5.at lC (kF _) ?_))
   | ((with_reducible refine aF (f:=oV) (l:=ji jM) (l':=ji (s.1,s.2.1,o1)) (t:=286) (C:=dh (s.1,s.2.1,o1)) lC (.tmp 3) (.tmp 16) ?_ ?_ (w.heap.size+1) ?_ (kF _) ?_ r5 rfl bC ?_);rfl;rfl;rfl;rfl;(intro W9 iH dw sN)))
  have dO:=b5.grown dw b5.size (fun k e=>by injection e with e;omega);refine bodyPost_ret (aQ (f:=oV) (l:=ji (s.1,s.2.1,o1)) rfl _ lC (w.heap.size+1) 0 rfl iH.at) rfl ?_;exact ⟨by rw [Ho1.out];rfl,dO⟩
theorem acC (w:World) (yb:Nat) (y:TB) (vn va:OC) (hQ:xH w yb y vn va) (hy:y.Ok) (h64:y.nx.length≤64) (s:Sx):
  Calls Tryz.prog 185 #[.agg (dh s), .pointer (some ⟨yb,0,none⟩)] w fun e w'=>e= .returned (.bool (y.some s.2.2))∧Below w.heap.size w w':=by
 have hB:=hQ.Zr;generalize bf y vn va=L at hB;obtain ⟨C,HC⟩:∃C,Hid (C=(L.map oV).toArray):=⟨_,Lib.hid rfl⟩
 rw [← HC.out] at hB;have hA3:bR Tryz.prog 166 L.length:=by rw [hB.len];exact iR
 have hs0:Row oV (w.alloc (.cells (dh s) 286)) w.heap.size 286 (ji s):=Row.new _ _ (congrArg (fun C=>Obj.cells C 286) (kF s));have b0:Below w.heap.size w (w.alloc (.cells (dh s) 286)):=(ak _ _).alloc (af _) _;have hB1:=hB.below b0;go_enter Tryz.func185,Tryz.ntmps185;go_upto_region 1 with (fail);generalize (w.alloc (.cells (dh s) 286))=W at hs0 b0 hB1 ⊢;have ha:=Ou hs0;have MP:=hB1.row.at;have hcl:=SV W C y hB1.at' hy h64 s.2.2;obtain ⟨z,Hz⟩:∃z,Hid (y.some s.2.2=z):=⟨_,Lib.hid rfl⟩
 rw [Hz.out] at hcl;have qH:=Lib.hid hcl;clear hcl hB hB1 hs0 hQ
 go_wp2_with (first
  | ((with_reducible refine zL MP hA3 HC.out ?_))
  | ((with_reducible refine zL ha tN (lX _) ?_)))
 refine qH.out.mono ?_;rintro e W4 ⟨rfl,hB4⟩;go_wp2_with fail;go_ret;exact ⟨by rw [Hz.out];rfl,b0.trans (hB4.mono b0.size)⟩
theorem aa4 (w:World) (eb xb yb:Nat) (x y:TB) (vn va un ua:OC) (hE:∀X,Below w.heap.size w X→X.cell? ⟨eb,0,none⟩=some (.func (.func 181) #[] #[.pointer (some ⟨xb,0,none⟩)])) (hQ:xH w xb x vn va) (hP:xH w yb y un ua) (hx:x.Ok) (hy:y.Ok) (h64:y.nx.length≤64) (s:Sx) (hs:s.1<x.nx.length) (c:Nat) (hc:c<256):
  Calls Tryz.prog 182 #[.agg (dh s), .int .i64 (c:Int), .pointer (some ⟨eb,0,none⟩), .pointer (some ⟨xb,0,none⟩), .pointer (some ⟨yb,0,none⟩)] w fun e w'=>e= .returned (.agg (dh (vI x y s c)))∧Below w.heap.size w w':=by
 have hs0:Row oV (w.alloc (.cells (dh s) 286)) w.heap.size 286 (ji s):=Row.new _ _ (congrArg (fun C=>Obj.cells C 286) (kF s));go_enter Tryz.func182,Tryz.ntmps182;go_upto_region 1 with (fail);have h0:=hs0.alloc (.cells #[.int .i64 0, .int .i64 0, .int .u64 0] 286);have s0:(w.alloc (.cells (dh s) 286)).heap.size=w.heap.size+1:=bO _ _
 have r0:Row oV ((w.alloc (.cells (dh s) 286)).alloc (.cells #[.int .i64 0, .int .i64 0, .int .u64 0] 286)) (w.heap.size+1) 286 (ji jM):=by
  have h:=Row.new (f:=oV) (w.alloc (.cells (dh s) 286)) (t:=286) (l:=ji jM) (.cells #[.int .i64 0, .int .i64 0, .int .u64 0] 286) rfl
  rwa [s0] at h
 have b0:Below w.heap.size w ((w.alloc (.cells (dh s) 286)).alloc (.cells #[.int .i64 0, .int .i64 0, .int .u64 0] 286)):=((ak _ _).alloc (af _) _).alloc (by rw [s0];omega) _;clear hs0 s0;generalize ((w.alloc (.cells (dh s) 286)).alloc (.cells #[.int .i64 0, .int .i64 0, .int .u64 0] 286))=W at h0 r0 b0 ⊢;have hq:=hQ.below b0;have hp:=hP.below b0;have hBW:Hid (∀X,Below W.heap.size W X→Below w.heap.size w X):=Lib.hid fun X h=>b0.trans (h.mono b0.size);have hW0:=h0.lt;have k0:∀X,Below W.heap.size W X→X.cell? ⟨eb,0,none⟩=some (.func (.func 181) #[] #[.pointer (some ⟨xb,0,none⟩)]):=fun X h=>hE X (hBW.out X h);have k1:∀X,Below W.heap.size W X→X.cell? ⟨xb,257,none⟩=some vn.1:=fun X h=>(hq.below h).nx;have k2:∀X,Below W.heap.size W X→X.cell? ⟨w.heap.size,0,none⟩=some (.int .i64 (s.1:Int)):=fun X h=>by rw [(h0.below h hW0).cell?];rfl
 have k3:∀X,Below W.heap.size W X→X.cell? ⟨xb,c,none⟩=some (.int .i64 (x.cell.getD c 0:Nat)):=fun X h=>(hq.below h).c c hc;obtain ⟨vn,jC⟩:=vn;obtain ⟨pn,kn,rfl⟩:=hQ.h1.slice;have hsl:s.1<x.nx.length:=hs;obtain ⟨n,Hn⟩:∃n,Hid (x.nx.length=n):=⟨_,Lib.hid rfl⟩
 have HN:=Lib.hid hQ.h1;rw [Hn.out] at HN k1 hs;obtain ⟨nb,no,rq,rd,rfl, -,hnb,hcr,hrw⟩:=sK HN.out s.1 (by rw [Hn.out];exact hs);have k4:∀X,Below W.heap.size W X→X.cell? ⟨nb,no+s.1,none⟩=some (.slice rq (x.nx.getD s.1 []).length rd):=fun X h=>((hBW.out X h).cell (p:=⟨nb,no+s.1,none⟩) hnb).trans hcr;have hrl2:(x.nx.getD s.1 []).length=x.cells:=hx.rw _ (aK _ _ _ hsl);have hcT:x.cell.getD c 0<x.cells:=kX hx c hc;have uP:Hid (x.to s.1 c=(x.nx.getD s.1 []).getD (x.cell.getD c 0) 0):=Lib.hid rfl;obtain ⟨row,xy⟩:∃r,Hid (x.nx.getD s.1 []=r):=⟨_,Lib.hid rfl⟩
 obtain ⟨k,Hk⟩:∃c',Hid (x.cell.getD c 0=c'):=⟨_,Lib.hid rfl⟩
 rw [xy.out] at hrw hrl2 k4 uP;rw [Hk.out] at k3 hcT uP;obtain ⟨rn,KT⟩:∃r,Hid (row.length=r):=⟨_,Lib.hid rfl⟩
 have hcl:k<rn:=by rw [← KT.out];omega
 rw [KT.out] at k4 hrw;obtain ⟨Xl,Wt,rfl,hct⟩:=iF hrw k hcl;have k5:∀X,Below W.heap.size W X→X.cell? ⟨Xl,Wt+k,none⟩=some (.int .i64 (row.getD k 0:Nat)):=fun X h=>hct X (hBW.out X h);obtain ⟨t,Ht⟩:∃t,Hid (row.getD k 0=t):=⟨_,Lib.hid rfl⟩
 rw [Ht.out] at k5 uP;have hsi:(s.1:Int)<(n:Int):=by omega
 have hki:(k:Int)<(rn:Int):=by omega
 have hci:(c:Int)<256:=by omega
 have Zm:=hp.Zr;have HP:=Lib.hid hp;have HQ:=Lib.hid hq
 have HTN:Hid (t<x.nx.length):=Lib.hid (by
  rw [← Ht.out,← xy.out]
  exact tu hx.rb s.1 _ (aK _ _ _ (by rw [xy.out,KT.out];exact hcl)))
 obtain ⟨L,HL⟩:∃L,Hid (bf y un ua=L):=⟨_,Lib.hid rfl⟩
 rw [HL.out] at Zm;obtain ⟨C,HC⟩:∃C,Hid (C=(L.map oV).toArray):=⟨_,Lib.hid rfl⟩
 rw [← HC.out] at Zm;have hA3:bR Tryz.prog 166 L.length:=by rw [Zm.len];exact iR
 have HPB:=Lib.hid Zm;clear hcr hrw hct Zm hp hq hQ hP hnb;refine aC (S:=fun X=>Below W.heap.size W X) 20 rfl (by kernel_rfl) (ak _ _).drew fun hS=> ?_;refine tk 0 8 (.func (.func 181) #[] #[.pointer (some ⟨xb,0,none⟩)]) hS ?_ rfl (qi fun W' h=>by have q0:=k0 W' h;go_simp);refine tk 1 9 (.pointer (some ⟨xb,257,none⟩)) hS ?_;refine tk 2 10 (.slice (some ⟨nb,no,none⟩) n kn) hS ?_ rfl (qi fun W' h=>by have q0:=k1 W' h;go_simp);refine tk 3 11 (.pointer (some ⟨w.heap.size,0,none⟩)) hS ?_;refine tk 4 12 (.int .i64 (s.1:Int)) hS ?_ rfl (qi fun W' h=>by have q0:=k2 W' h;go_simp);refine tk 5 13 (.pointer (some ⟨nb,no+s.1,none⟩)) hS ?_ rfl yg;refine tk 6 14 (.slice (some ⟨Xl,Wt,none⟩) rn rd) hS ?_ rfl (qi fun W' h=>by have q0:=k4 W' h;go_simp);refine tk 7 15 (.int .i64 (c:Int)) hS ?_;refine tk 8 16 (.pointer (some ⟨xb,0,none⟩)) hS ?_;refine tk 9 17 (.pointer (some ⟨xb,c,none⟩)) hS ?_ rfl yg;refine tk 10 18 (.int .i64 (k:Int)) hS ?_ rfl (qi fun W' h=>by have q0:=k3 W' h;go_simp);refine tk 11 19 (.pointer (some ⟨Xl,Wt+k,none⟩)) hS ?_ rfl yg;refine tk 12 20 (.int .i64 (t:Int)) hS ?_ rfl (qi fun W' h=>by have q0:=k5 W' h;go_simp);refine tk 13 21 (.agg C) hS ?_ rfl (aA (f:=oV) (l:=L) hA3 (.tmp 4) rfl yb 0 rfl (fun W' h=>(HPB.out.below h).row.at) HC.out rfl);refine tk 14 22 (.pointer (some ⟨w.heap.size,2,none⟩)) hS ?_;refine tk 15 23 (.agg (iZ s.2.2)) hS ?_ rfl (aA (f:=oV) (l:=[ow (X s.2.2)]) tN (.tmp 22) rfl w.heap.size 2 rfl (fun W' h=>Ou (h0.below h hW0)) (lX _) rfl);refine tk 16 24 (.int .i64 (c:Int)) hS ?_;refine iT 17 (fun K' hK=> ?_);refine cD 25 183 #[.agg C, .agg (iZ s.2.2), .int .i64 (c:Int)] ?_;refine (Mg W.drew C y (HPB.out.below hS).at' hy h64 s.2.2 c hc).mono ?_;rintro e Wa ⟨rfl,hBa⟩;obtain ⟨o,Ho⟩:∃o,Hid (y.targets s.2.2 c=o):=⟨_,Lib.hid rfl⟩
 rw [Ho.out];have jg:=hS.trans (hBa.mono hS.size);refine ⟨_,rfl,hK.out _ _ jg fun _=> ?_⟩;clear hK hBa hS;have hS:=jg;simp only [sA,sB,sC];refine tk 18 26 (.agg (dh (t,0,o))) hS ?_ rfl (yo fun w=>by kernel_rfl);refine iT 19 (fun K' hK=> ?_);refine cD 27 181 #[.agg (dh (t,0,o)), .pointer (some ⟨xb,0,none⟩)] ?_;refine (Mt Wa xb x _ va (HQ.out.below hS) hx (t,0,o) HTN.out).mono ?_;rintro e Wb ⟨rfl,hBb⟩;have hSb:=hS.trans (hBb.mono hS.size);refine ⟨_,rfl,hK.out _ _ hSb fun _=> ?_⟩;have HE:Hid (vI x y s c=tq x (t,0,o)):=Lib.hid (by unfold vI;rw [uP.out,Ho.out]);obtain ⟨u,Hu⟩:∃u,Hid (tq x (t,0,o)=u):=⟨_,Lib.hid rfl⟩
 rw [Hu.out] at HE ⊢;clear hK hBb hS jg k0 k1 k2 k3 k4 k5 hE;simp only [sA,sB,sC];refine aL (by kernel_rfl) ?_;simp only [List.drop];have hr2:=r0.below hSb r0.lt;have adl:=hBW.out Wb hSb;go_wp2_with ((with_reducible refine aF (f:=oV) (l:=ji jM) (l':=ji u) (t:=286) (C:=dh u) lC (.tmp 7) (.tmp 27) ?_ ?_ (w.heap.size+1) ?_ (kF _) ?_ hr2 rfl bC ?_);rfl;rfl;rfl;rfl;(intro W9 iH dw sN));have dO:=adl.grown dw adl.size (fun k e=>by injection e with e;omega);refine bodyPost_ret (aQ (f:=oV) (l:=ji u) rfl _ lC (w.heap.size+1) 0 rfl iH.at) rfl ?_;exact ⟨by rw [HE.out];rfl,dO⟩
end
section
open Go Go.RowKit Mem
theorem zy.tbS {w:World} {vc:Value} {vn va:OC} {D:DF} (h:zy w (.agg #[vc,vn.1,va.1]) D):Aq w vn va (bP D):=fun X hX=>by
 obtain ⟨vc',vn',va',heq,h1,h2,h3⟩:=h X hX;simp only [Value.agg.injEq,SC,GK,and_true] at heq;obtain ⟨rfl,rfl,rfl⟩:=heq;exact ⟨h2,h3⟩
theorem dm.ocs {w:World} {v:Value} {D:DF} (h:dm w v D):∃(vc vn va:OC),v= .agg #[vc.1,vn.1,va.1]:=by
 obtain ⟨p1,k1,p2,k2,p3,k3,rfl⟩:=h.parts;exact ⟨⟨.slice p1 D.cls.length k1,rfl⟩,⟨.slice p2 D.nx.length k2,rfl⟩,⟨.slice p3 D.ac.length k3,rfl⟩,rfl⟩
theorem Aq.q {w:World} {b:Nat} {vn va:OC} {T:TB} (h:Aq w vn va T) (hr:Row oV w b 166 (bf T vn va)) (hc:T.cell.length=256):xH w b T vn va:=⟨hr,(h w (dL.refl w)).1,(h w (dL.refl w)).2,hc⟩
def Ug (n0:Nat) (va vb:Value) (an aa bn ba:OC) (A B:DF) (i:Nat) (v:Value) (w:World):Prop:=match i with
 | 0=>v=va
 | 1=>v= .agg ((bf (bP A) an aa).map oV).toArray
 | 2=>zy w v (bP A).canon
 | 3=>∃vn va:OC,v= .agg ((bf (kT A) vn va).map oV).toArray∧Aq w vn va (kT A)
 | 4=>v=vb
 | 5=>v= .agg ((bf (bP B) bn ba).map oV).toArray
 | 6=>zy w v (bP B).canon
 | 7=>∃vn va:OC,v= .agg ((bf (kT B) vn va).map oV).toArray∧Aq w vn va (kT B)
 | 8=>∃(p:Nat) (L:List OC),v= .pointer (some ⟨p,0,none⟩)∧n0≤p∧L.length=259∧Row oV w p 166 L
 | 9=>∃p:Nat,v= .pointer (some ⟨p,0,none⟩)∧n0≤p∧Row oV w p 166 (bf ⟨List.replicate 256 0,0,[],[]⟩ on on)
 | 10=>∃(p:Nat) (vn va:OC),v= .pointer (some ⟨p,0,none⟩)∧n0≤p∧Aq w vn va (kT A)∧Row oV w p 166 (bf (kT A) vn va)
 | _=>True
def PsC (i j:Nat) (v u:Value):Prop:=(i=8→j=9→v≠u)∧(i=8→j=10→v=u)
theorem Yf {i:Nat} (h:i≠8∧i≠9∧i≠10) (j:Nat) (v u:Value):PsC i j v u∧PsC j i u v:=⟨⟨fun e=>absurd e h.1,fun e=>absurd e h.1⟩,⟨fun _ e=>absurd e h.2.1,fun _ e=>absurd e h.2.2⟩⟩
theorem Ad {n0:Nat} {va vb:Value} {an aa bn ba:OC} {A B:DF} {i:Nat} {v:Value} {w w':World} (h:Ug n0 va vb an aa bn ba A B i v w) (hb:Below w.heap.size w w'):Ug n0 va vb an aa bn ba A B i v w':=by
 have hk:=dL.of_below hb
 match i,h with
 | 0,h=>exact h
 | 1,h=>exact h
 | 2,h=>exact zy.keep h hk
 | 3,⟨vn,va,h1,h2⟩=>exact ⟨vn,va,h1,h2.keep hk⟩
 | 4,h=>exact h
 | 5,h=>exact h
 | 6,h=>exact zy.keep h hk
 | 7,⟨vn,va,h1,h2⟩=>exact ⟨vn,va,h1,h2.keep hk⟩
 | 8,⟨p,L,h1,h2,h3,h4⟩=>exact ⟨p,L,h1,h2,h3,h4.below hb h4.lt⟩
 | 9,⟨p,h1,h2,h3⟩=>exact ⟨p,h1,h2,h3.below hb h3.lt⟩
 | 10,⟨p,vn,va,h1,h2,h3,h4⟩=>exact ⟨p,vn,va,h1,h2,h3.keep hk,h4.below hb h4.lt⟩
 | _+11,_=>trivial
theorem dm.adE {w:World} {vc vn va:OC} {D:DF} (h:dm w (.agg #[vc.1,vn.1,va.1]) D):kz w ((bf (bP D) vn va).map oV).toArray (bP D):=by
 obtain ⟨vc',vn',va',heq,h1,h2,h3⟩:=h;simp only [Value.agg.injEq,SC,GK,and_true] at heq;obtain ⟨rfl,rfl,rfl⟩:=heq;exact ⟨vn,va,rfl,h2,h3,jE D.cls D.cls.length⟩
section
variable {P:Program} {α:Type} {f:α→Value} {lv l':List α} {o:Oper} {a:Act} {w:World} {K:Act→World→Prop} {Q:Exit→Act→World→Prop}
theorem FM {ty t:TypeId} (T:bR P ty l'.length) (x y:Operand) (ho:o.op= .store ty x y) (b:Nat) (hx:a.eval x= .pointer (some ⟨b,0,none⟩)) {C:Array Value} (hC:C=(l'.map f).toArray) (hy:a.eval y= .agg C) (h:Row f w b t lv) (hl:l'.length=lv.length) (h1:∀x,(f x).oneCell'=true)
  (hk:∀w',Row f w' b t l'→w.grownBy w' (some b)→w'.heap.size=w.heap.size→K (a.put o.dst undef) w'):o.wp P a w K Q:=by
 subst hC;obtain ⟨w',hr,h2,h3,h4⟩:=mY T h hl h1;unfold Oper.wp execOp;simp only [ho,hx,hy,Instr.storeAt,Instr.sureAddr,dS,iE,fK,hr];exact hk w' h2 h3 h4
end
theorem Zn {α:Type} (l:List α) (h:l.length=11):∃a b c d e f g i j k m,l=[a,b,c,d,e,f,g,i,j,k,m]:=by
 match l,h with
 | [a,b,c,d,e,f,g,i,j,k,m],_=>exact ⟨a,b,c,d,e,f,g,i,j,k,m,rfl⟩
abbrev zT:TB:=⟨List.replicate 256 0,0,[],[]⟩
theorem SX {w:World} {e:Ending} {S:Option TB} (h:YZ w e S):∃tn ta:OC,e= .returned (.tuple #[.agg ((bf (S.getD zT) tn ta).map oV).toArray, .bool S.isSome])∧Aq w tn ta (S.getD zT)∧(S.getD zT).cell.length=256:=by
 cases S with
 | none=>exact ⟨on,on,h,fun X _=>⟨.inl ⟨none,rfl,rfl⟩, .inl ⟨none,rfl,rfl⟩⟩,by simp⟩
 | some T=>
  obtain ⟨tn,ta,h1,h2,h3⟩:=h;exact ⟨tn,ta,h1,h2,h3⟩
theorem TB.Ok.SK {T:TB} (h:T.Ok) {s c:Nat} (hs:s<T.nx.length) (hc:c<256):T.to s c<T.nx.length:=by
 have h1:=h.rw _ (aK T.nx s [] hs);have h2:=kX h c hc;exact tu h.rb s _ (aK _ _ 0 (by rw [h1];exact h2))
theorem fu (x:TB) (s:Sx):(tq x s).1=s.1∧(tq x s).2.1=s.2.1:=by
 unfold tq;split<;>exact ⟨rfl,rfl⟩
def PhE (n0:Nat) (J:JS) (vj:Value) (pa pb eb:Nat) (x:TB) (T0:TB) (b0:Bool) (i:Nat) (v:Value) (w:World):Prop:=match i with
 | 0=>v= .agg (wT J.cell)
 | 1=>v=vj
 | 2=>v= .func (.func 181) #[] #[.pointer (some ⟨pa,0,none⟩)]
 | 3=>v= .agg (dh jM)
 | 4=>v= .agg (dh (tq x jM))
 | 5=>v= .func (.func 182) #[] #[.pointer (some ⟨eb,0,none⟩), .pointer (some ⟨pa,0,none⟩), .pointer (some ⟨pb,0,none⟩)]
 | 6=>v= .func (.func 185) #[] #[.pointer (some ⟨pb,0,none⟩)]
 | 7=>∃tn ta:OC,v= .tuple #[.agg ((bf T0 tn ta).map oV).toArray, .bool b0]∧Aq w tn ta T0
 | 8=>∃tn ta:OC,v= .tuple #[.agg ((bf T0 tn ta).map oV).toArray, .bool b0]∧Aq w tn ta T0
 | 9=>∃tn ta:OC,v= .agg ((bf T0 tn ta).map oV).toArray∧Aq w tn ta T0
 | 10=>v= .bool b0
 | 11=>∃(p:Nat) (L:List OC),v= .pointer (some ⟨p,0,none⟩)∧n0≤p∧L.length=259∧Row oV w p 166 L
 | 12=>∃(p:Nat) (tn ta:OC),v= .pointer (some ⟨p,0,none⟩)∧n0≤p∧Aq w tn ta T0∧Row oV w p 166 (bf T0 tn ta)
 | _=>True
def PsE (i j:Nat) (v u:Value):Prop:=i=11→j=12→v=u
theorem VU {i:Nat} (h:i≠11∧i≠12) (j:Nat) (v u:Value):PsE i j v u∧PsE j i u v:=⟨fun e=>absurd e h.1,fun _ e=>absurd e h.2⟩
theorem Jv {n0:Nat} {J:JS} {vj:Value} {pa pb eb:Nat} {x T0:TB} {b0:Bool} {i:Nat} {v:Value} {w w':World} (h:PhE n0 J vj pa pb eb x T0 b0 i v w) (hb:Below w.heap.size w w'):PhE n0 J vj pa pb eb x T0 b0 i v w':=by
 have hk:=dL.of_below hb
 match i,h with
 | 0,h=>exact h
 | 1,h=>exact h
 | 2,h=>exact h
 | 3,h=>exact h
 | 4,h=>exact h
 | 5,h=>exact h
 | 6,h=>exact h
 | 7,⟨vn,va,h1,h2⟩=>exact ⟨vn,va,h1,h2.keep hk⟩
 | 8,⟨vn,va,h1,h2⟩=>exact ⟨vn,va,h1,h2.keep hk⟩
 | 9,⟨vn,va,h1,h2⟩=>exact ⟨vn,va,h1,h2.keep hk⟩
 | 10,h=>exact h
 | 11,⟨p,L,h1,h2,h3,h4⟩=>exact ⟨p,L,h1,h2,h3,h4.below hb h4.lt⟩
 | 12,⟨p,vn,va,h1,h2,h3,h4⟩=>exact ⟨p,vn,va,h1,h2,h3.keep hk,h4.below hb h4.lt⟩
 | _+13,_=>trivial
theorem acX {α:Type} (l:List α) (h:l.length=13):∃a b c d e f g i j k m n o,l=[a,b,c,d,e,f,g,i,j,k,m,n,o]:=by
 match l,h with
 | [a,b,c,d,e,f,g,i,j,k,m,n,o],_=>exact ⟨a,b,c,d,e,f,g,i,j,k,m,n,o,rfl⟩
theorem RO (w:World) (va vb:Value) (A B:DF) (hva:dm w va A) (hvb:dm w vb B) (hA:A.V) (hB:B.V) (uj:gV w) (htl:1<w.heap.size):
  Calls Tryz.prog 137 #[va,vb] w fun e w'=>∃v,e= .returned v∧fF w' v (A.cat B)∧Below w.heap.size w w':=by
 have IY:=Lib.hid hA;have HVB:=Lib.hid hB;have Qz:=Lib.hid uj;have iy:=Lib.hid htl;have HAA:=Lib.hid hva;have OY:=Lib.hid hvb;obtain ⟨ac,an,aa,rfl⟩:=hva.ocs;obtain ⟨bc,bn,ba,rfl⟩:=hvb.ocs;obtain ⟨LA,HLA⟩:∃L:List OC,Hid (L=[ac,an,aa]):=⟨_,Lib.hid rfl⟩
 obtain ⟨LB,HLB⟩:∃L:List OC,Hid (L=[bc,bn,ba]):=⟨_,Lib.hid rfl⟩
 obtain ⟨CA,Ep⟩:∃C,Hid (C=(LA.map oV).toArray):=⟨_,Lib.hid rfl⟩
 obtain ⟨CB,Ws⟩:∃C,Hid (C=(LB.map oV).toArray):=⟨_,Lib.hid rfl⟩
 have hca: #[ac.1,an.1,aa.1]=CA:=by rw [Ep.out,HLA.out];rfl
 have hcb: #[bc.1,bn.1,ba.1]=CB:=by rw [Ws.out,HLB.out];rfl
 have Hca:=Lib.hid hca;have Pt:=Lib.hid hcb;rw [hca] at HAA ⊢;rw [hcb] at OY ⊢;have hla:LA.length=3:=by rw [HLA.out];rfl
 have hlb:LB.length=3:=by rw [HLB.out];rfl
 have hTA:bR Tryz.prog 79 LA.length:=by rw [hla];exact bN
 have Q7:bR Tryz.prog 79 LB.length:=by rw [hlb];exact bN
 have rA0:Row oV (w.alloc (.cells CA 79)) w.heap.size 79 LA:=Row.new _ _ (by rw [Ep.out]);have s0:(w.alloc (.cells CA 79)).heap.size=w.heap.size+1:=bO _ _
 have rB0:Row oV ((w.alloc (.cells CA 79)).alloc (.cells CB 79)) (w.heap.size+1) 79 LB:=by
  have h:=Row.new (f:=oV) (w.alloc (.cells CA 79)) (t:=79) (l:=LB) (.cells CB 79) (by rw [Ws.out])
  rwa [s0] at h
 have s1:((w.alloc (.cells CA 79)).alloc (.cells CB 79)).heap.size=w.heap.size+2:=by rw [bO,s0]
 have YY:Row oV (((w.alloc (.cells CA 79)).alloc (.cells CB 79)).alloc (.cells #[.slice none 0 0, .slice none 0 0, .slice none 0 0] 79)) (w.heap.size+2) 79 [on,on,on]:=by
  have h:=Row.new (f:=oV) ((w.alloc (.cells CA 79)).alloc (.cells CB 79)) (t:=79) (l:=[on,on,on]) (.cells #[.slice none 0 0, .slice none 0 0, .slice none 0 0] 79) rfl
  rwa [s1] at h
 have b0:Below w.heap.size w (((w.alloc (.cells CA 79)).alloc (.cells CB 79)).alloc (.cells #[.slice none 0 0, .slice none 0 0, .slice none 0 0] 79)):=(((ak _ _).alloc (af _) _).alloc (by rw [s0];omega) _).alloc (by rw [s1];omega) _;have V8:=(rA0.alloc (.cells CB 79)).alloc (.cells #[.slice none 0 0, .slice none 0 0, .slice none 0 0] 79);have rB1:=rB0.alloc (.cells #[.slice none 0 0, .slice none 0 0, .slice none 0 0] 79);clear hva hvb hA hB uj htl hca hcb hla hlb rA0 rB0;go_enter Tryz.func137,Tryz.ntmps137;go_upto_region 1 with (fail);generalize (((w.alloc (.cells CA 79)).alloc (.cells CB 79)).alloc (.cells #[.slice none 0 0, .slice none 0 0, .slice none 0 0] 79))=W at V8 rB1 YY b0 ⊢;clear s0 s1;obtain ⟨tb,dx⟩:∃tb,Hid (w.heap.size=tb):=⟨_,Lib.hid rfl⟩
 have aac:=He W _ A (HAA.out.below b0) IY.out;have YW:=Lib.hid aac;have HAW:=Lib.hid (HAA.out.below b0);have HBW:=Lib.hid (OY.out.below b0);rw [dx.out] at b0 V8 rB1 YY ⊢;clear aac;go_wp2_with ((with_reducible refine zL V8.at hTA Ep.out ?_));refine YW.out.mono ?_;rintro e Wa ⟨rfl,hBa⟩;have rBl:=rB1.lt;have rAa:=V8.below hBa V8.lt;have rBa:=rB1.below hBa rBl;have rRa:=YY.below hBa YY.lt;have bA:Below tb w Wa:=b0.trans (hBa.mono (by omega));have HAa:=Lib.hid (HAW.out.below hBa);have HBa:=Lib.hid (HBW.out.below hBa);have Zj:=He Wa _ B HBa.out HVB.out;have ab3:=Lib.hid Zj;clear Zj V8 rB1 YY b0 YW hBa rBl HAW HBW;go_wp2_with ((with_reducible refine tF (f:=oV) (l:=LB) (C:=CB) Q7 (.tmp 3) ?_ ?_ (tb+1) 0 ?_ rBa.at Ws.out ?_);rfl;rfl;rfl);refine ab3.out.mono ?_;rintro e Wb ⟨rfl,hBb⟩;have rBl:=rBa.lt;have rRl:=rRa.lt;have rA:=rAa.below hBb rAa.lt;have rB:=rBa.below hBb rBl;have rR:=rRa.below hBb rRl;have bB:Below tb w Wb:=bA.trans (hBb.mono (by omega));have HAb:=Lib.hid (HAa.out.below hBb);have HBb:=Lib.hid (HBa.out.below hBb);clear ab3 rAa rBa rRa bA hBb rBl rRl HAa HBa;go_upto_region 3 with (fail);have Aw:Hid (∀X,Below Wb.heap.size Wb X→gV X):=Lib.hid fun X h=>(Qz.out.below (B:=w.heap.size) (by rw [dx.out];exact bB) iy.out).below h (bJ iy.out (by have:=bB.size;exact this));have Y6:=Lib.hid (jD IY.out.toOk);have HOB:=Lib.hid (jD HVB.out.toOk);obtain ⟨n0,Hn0⟩:∃n,Hid (Wb.heap.size=n):=⟨_,Lib.hid rfl⟩
 have Be:=Lib.hid (Bp IY.out);have HXB:=Lib.hid (Bp HVB.out);refine oG 11 [some 23,some 24,some 25,some 26,some 27,some 28,some 29,some 30,some 6,some 7,none] (fun _ X=>Below Wb.heap.size Wb X) (Ug Wb.heap.size (.agg CA) (.agg CB) an aa bn ba A B) PsC rfl (by kernel_rfl) (by kernel_rfl) (ak _ _).drew ?_ ?_
 ·intro i o hi ho a X dn val hK hd hdn hG;have hst:∀{i:Nat} {v:Value} {X':World},i≠8∧i≠9∧i≠10→Below X.heap.size X X'→∀j,j<11→j≠i→dn j=true→Ug Wb.heap.size (.agg CA) (.agg CB) an aa bn ba A B j (val j) X'∧PsC i j v (val j)∧PsC j i (val j) v:=fun h hb j hj _ hdj=>⟨Ad (hK.got j hj hdj) hb,Yf h j _ _⟩;have hDA:=HAb.out.below hG;have hDB:=HBb.out.below hG
  match i,hi,ho with
  | 0,_,ho=>
   obtain rfl:=eG ho;exact rC (f:=oV) (lv:=LA) hTA (.tmp 2) rfl tb 0 (by show a.tmps.getD 2 undef=_;rw [hK.old 2 (by decide)];rfl) (rA.below hG rA.lt).at Ep.out ⟨_,rfl,hG,rfl,hst (by decide) (ak _ _)⟩
  | 1,_,ho=>
   obtain rfl:=eG ho
   have e0:a.eval (.tmp 23)= .agg #[ac.1,an.1,aa.1]:=by
    show a.tmps.getD 23 undef=_;rw [hK.slot 0 (by decide) (hd 0 (by kernel_rfl)) 23 rfl,Hca.out];exact hK.got 0 (by decide) (hd 0 (by kernel_rfl))
   refine jP rfl (g:=70) (args:= #[a.eval (.tmp 23)]) (by first | rfl | kernel_rfl) ?_;rw [e0];refine (yj X ac.1 an aa A (by rw [Hca.out];exact hDA) IY.out.lY (Aw.out X hG)).mono ?_;rintro e X' ⟨rfl,hb⟩;exact ⟨_,rfl,_,rfl,hG.trans (hb.mono hG.size),rfl,hst (by decide) hb⟩
  | 2,_,ho=>
   obtain rfl:=eG ho
   have e0:a.eval (.tmp 24)= .agg ((bf (bP A) an aa).map oV).toArray:=by
    show a.tmps.getD 24 undef=_;rw [hK.slot 1 (by decide) (hd 1 (by kernel_rfl)) 24 rfl];exact hK.got 1 (by decide) (hd 1 (by kernel_rfl))
   refine jP rfl (g:=177) (args:= #[a.eval (.tmp 24)]) (by first | rfl | kernel_rfl) ?_;rw [e0];refine (IQ X _ (bP A) (dm.adE (vc:=ac) (by rw [Hca.out];exact hDA)) Y6.out).mono ?_;rintro e X' ⟨v,rfl,hv,hb⟩;exact ⟨_,rfl,_,rfl,hG.trans (hb.mono hG.size),hv,hst (by decide) hb⟩
  | 3,_,ho=>
   obtain rfl:=eG ho;have h2:zy X (val 2) (bP A).canon:=hK.got 2 (by decide) (hd 2 (by kernel_rfl));obtain ⟨vc,vn,va,hv⟩:=(h2 X (dL.refl X)).ocs;rw [hv] at h2
   have e0:a.eval (.tmp 25)= .agg #[vc.1,vn.1,va.1]:=by
    show a.tmps.getD 25 undef=_;rw [hK.slot 2 (by decide) (hd 2 (by kernel_rfl)) 25 rfl,hv]
   refine jP rfl (g:=70) (args:= #[a.eval (.tmp 25)]) (by first | rfl | kernel_rfl) ?_;rw [e0];refine (yj X vc.1 vn va (bP A).canon (h2 X (dL.refl X)) Y6.out.canon.1.lY (Aw.out X hG)).mono ?_;rintro e X' ⟨rfl,hb⟩;exact ⟨_,rfl,_,rfl,hG.trans (hb.mono hG.size),⟨vn,va,rfl,(zy.tbS h2).keep (dL.of_below hb)⟩,hst (by decide) hb⟩
  | 4,_,ho=>
   obtain rfl:=eG ho;exact rC (f:=oV) (lv:=LB) Q7 (.tmp 3) rfl (tb+1) 0 (by show a.tmps.getD 3 undef=_;rw [hK.old 3 (by decide)];rfl) (rB.below hG rB.lt).at Ws.out ⟨_,rfl,hG,rfl,hst (by decide) (ak _ _)⟩
  | 5,_,ho=>
   obtain rfl:=eG ho
   have e0:a.eval (.tmp 27)= .agg #[bc.1,bn.1,ba.1]:=by
    show a.tmps.getD 27 undef=_;rw [hK.slot 4 (by decide) (hd 4 (by kernel_rfl)) 27 rfl,Pt.out];exact hK.got 4 (by decide) (hd 4 (by kernel_rfl))
   refine jP rfl (g:=70) (args:= #[a.eval (.tmp 27)]) (by first | rfl | kernel_rfl) ?_;rw [e0];refine (yj X bc.1 bn ba B (by rw [Pt.out];exact hDB) HVB.out.lY (Aw.out X hG)).mono ?_;rintro e X' ⟨rfl,hb⟩;exact ⟨_,rfl,_,rfl,hG.trans (hb.mono hG.size),rfl,hst (by decide) hb⟩
  | 6,_,ho=>
   obtain rfl:=eG ho
   have e0:a.eval (.tmp 28)= .agg ((bf (bP B) bn ba).map oV).toArray:=by
    show a.tmps.getD 28 undef=_;rw [hK.slot 5 (by decide) (hd 5 (by kernel_rfl)) 28 rfl];exact hK.got 5 (by decide) (hd 5 (by kernel_rfl))
   refine jP rfl (g:=177) (args:= #[a.eval (.tmp 28)]) (by first | rfl | kernel_rfl) ?_;rw [e0];refine (IQ X _ (bP B) (dm.adE (vc:=bc) (by rw [Pt.out];exact hDB)) HOB.out).mono ?_;rintro e X' ⟨v,rfl,hv,hb⟩;exact ⟨_,rfl,_,rfl,hG.trans (hb.mono hG.size),hv,hst (by decide) hb⟩
  | 7,_,ho=>
   obtain rfl:=eG ho;have h2:zy X (val 6) (bP B).canon:=hK.got 6 (by decide) (hd 6 (by kernel_rfl));obtain ⟨vc,vn,va,hv⟩:=(h2 X (dL.refl X)).ocs;rw [hv] at h2
   have e0:a.eval (.tmp 29)= .agg #[vc.1,vn.1,va.1]:=by
    show a.tmps.getD 29 undef=_;rw [hK.slot 6 (by decide) (hd 6 (by kernel_rfl)) 29 rfl,hv]
   refine jP rfl (g:=70) (args:= #[a.eval (.tmp 29)]) (by first | rfl | kernel_rfl) ?_;rw [e0];refine (yj X vc.1 vn va (bP B).canon (h2 X (dL.refl X)) HOB.out.canon.1.lY (Aw.out X hG)).mono ?_;rintro e X' ⟨rfl,hb⟩;exact ⟨_,rfl,_,rfl,hG.trans (hb.mono hG.size),⟨vn,va,rfl,(zy.tbS h2).keep (dL.of_below hb)⟩,hst (by decide) hb⟩
  | 8,_,ho=>
   obtain rfl:=eG ho;have hb:Below X.heap.size X (X.alloc (.cells fP 166)):=(ak _ _).alloc (af _) _;refine aO (v:= .pointer (some ⟨X.heap.size,0,none⟩)) (w':=X.alloc (.cells fP 166)) (by kernel_rfl) ⟨_,rfl,hG.trans (hb.mono hG.size),⟨X.heap.size,bf ⟨List.replicate 256 0,0,[],[]⟩ on on,rfl,hG.size,aR _ _ (by simp),Row.new _ _ rfl⟩,?_⟩;intro j hj hji hdj;refine ⟨Ad (hK.got j hj hdj) hb,⟨fun _ e=> ?_,fun _ e=> ?_⟩,⟨fun _ e=>(by cases e),fun _ e=>(by cases e)⟩⟩
   ·subst e;obtain ⟨p,h1,_,h3⟩:=hK.got 9 (by decide) hdj;rw [h1];intro e;injection e with e
    injection e with e
    injection e with e
    have:=h3.lt;omega
   ·subst e;have:=hK.clo 10 _ (by decide) rfl hdj 8 (by kernel_rfl);rw [hdn] at this;cases this
  | 9,_,ho=>
   obtain rfl:=eG ho;have hb:Below X.heap.size X (X.alloc (.cells fP 166)):=(ak _ _).alloc (af _) _;refine aO (v:= .pointer (some ⟨X.heap.size,0,none⟩)) (w':=X.alloc (.cells fP 166)) (by kernel_rfl) ⟨_,rfl,hG.trans (hb.mono hG.size),⟨X.heap.size,rfl,hG.size,Row.new _ _ rfl⟩,?_⟩;intro j hj hji hdj;refine ⟨Ad (hK.got j hj hdj) hb,⟨fun e=>(by cases e),fun e=>(by cases e)⟩,⟨fun e _=> ?_,fun _ e=>(by cases e)⟩⟩;subst e;obtain ⟨p,L,h1,_,_,h3⟩:=hK.got 8 (by decide) hdj;rw [h1];intro e;injection e with e
   injection e with e
   injection e with e
   have:=h3.lt;omega
  | 10,_,ho=>
   obtain rfl:=eG ho;obtain ⟨p,L,h1,hp0,hL,hr⟩:=hK.got 8 (by decide) (hd 8 (by kernel_rfl));obtain ⟨vn,va,h3,h4⟩:=hK.got 3 (by decide) (hd 3 (by kernel_rfl))
   have e6:a.eval (.tmp 6)= .pointer (some ⟨p,0,none⟩):=by
    show a.tmps.getD 6 undef=_;rw [hK.slot 8 (by decide) (hd 8 (by kernel_rfl)) 6 rfl,h1]
   have e26:a.eval (.tmp 26)= .agg ((bf (kT A) vn va).map oV).toArray:=by
    show a.tmps.getD 26 undef=_;rw [hK.slot 3 (by decide) (hd 3 (by kernel_rfl)) 26 rfl,h3]
   have hl:(bf (kT A) vn va).length=259:=aR _ _ Be.out.1.cl;refine FM (f:=oV) (lv:=L) (l':=bf (kT A) vn va) (ty:=166) (t:=166) (by rw [hl];exact iR) (.tmp 6) (.tmp 26) rfl p e6 rfl e26 hr (by rw [hl,hL]) bC ?_;intro X' hr' YP hz';have hk:=dL.D9 hr YP;have hbG:Below Wb.heap.size Wb X':=hG.grown YP hG.size (fun k e=>by injection e with e;omega);refine ⟨.pointer (some ⟨p,0,none⟩),rfl,hbG,⟨p,vn,va,rfl,hp0,h4.keep hk,hr'⟩,?_⟩;intro j hj hji hdj;refine ⟨?_,⟨fun e=>(by cases e),fun e=>(by cases e)⟩,⟨fun _ e=>(by cases e),fun e _=>(by subst e;exact h1)⟩⟩;have hgj:=hK.got j hj hdj
   match j,hj,hji,hdj,hgj with
   | 0,_,_,_,h=>exact h
   | 1,_,_,_,h=>exact h
   | 2,_,_,_,h=>exact zy.keep h hk
   | 3,_,_,_,⟨un,ua,g1,g2⟩=>exact ⟨un,ua,g1,g2.keep hk⟩
   | 4,_,_,_,h=>exact h
   | 5,_,_,_,h=>exact h
   | 6,_,_,_,h=>exact zy.keep h hk
   | 7,_,_,_,⟨un,ua,g1,g2⟩=>exact ⟨un,ua,g1,g2.keep hk⟩
   | 8,_,_,_,_=>exact ⟨p,bf (kT A) vn va,h1,hp0,hl,hr'⟩
   | 9,_,_,DZ,⟨q,g1,g2,g3⟩=>
    refine ⟨q,g1,g2,g3.grown YP (fun e=> ?_)⟩;injection e with e
    exact (hK.two 8 9 (by decide) (by decide) (by decide) (hd 8 (by kernel_rfl)) DZ).1 rfl rfl (by rw [h1,g1,e])
   | 10,_,hne,_,_=>exact absurd rfl hne
 intro vs X dn hvl vP Ob _ hG;obtain ⟨v0,v1,v2,v3,v4,v5,v6,v7,v8,v9,v10,rfl⟩:=Zn vs hvl;obtain ⟨yn,ya,hv7,hy⟩:Ug Wb.heap.size (.agg CA) (.agg CB) an aa bn ba A B 7 v7 X:=vP 7 (by decide);obtain ⟨pb,hv9,hpb,hrb⟩:Ug Wb.heap.size (.agg CA) (.agg CB) an aa bn ba A B 9 v9 X:=vP 9 (by decide);obtain ⟨pa,xn,xa,Ve,hpa,hx,hra⟩:Ug Wb.heap.size (.agg CA) (.agg CB) an aa bn ba A B 10 v10 X:=vP 10 (by decide);have hv8:v8=v10:=(Ob 8 10 (by decide) (by decide) (by decide)).2 rfl rfl;have hne:v8≠v9:=(Ob 8 9 (by decide) (by decide) (by decide)).1 rfl rfl;rw [hv8,Ve,hv9] at hne;have hab:pa≠pb:=fun e=>hne (by rw [e]);subst hv8;subst hv7 hv9 Ve;have Hab:=Lib.hid hab;clear vP Ob hvl hne hab;obtain ⟨x,Hx⟩:∃x,Hid (kT A=x):=⟨_,Lib.hid rfl⟩
 obtain ⟨y,Hy⟩:∃x,Hid (kT B=x):=⟨_,Lib.hid rfl⟩
 rw [Hx.out] at hx hra Be;rw [Hy.out] at hy HXB ⊢;have hcx:x.cell.length=256:=Be.out.1.cl;have hcy:y.cell.length=256:=HXB.out.1.cl;obtain ⟨LX,HLX⟩:∃L,Hid (bf x xn xa=L):=⟨_,Lib.hid rfl⟩
 obtain ⟨LY,HLY⟩:∃L,Hid (bf y yn ya=L):=⟨_,Lib.hid rfl⟩
 have hlx:LX.length=259:=by rw [← HLX.out];exact aR _ _ hcx
 have hly:LY.length=259:=by rw [← HLY.out];exact aR _ _ hcy
 have hTX:bR Tryz.prog 166 LX.length:=by rw [hlx];exact iR
 have hTY:bR Tryz.prog 166 LY.length:=by rw [hly];exact iR
 have hLz:LY.length=(bf ⟨List.replicate 256 0,0,[],[]⟩ on on).length:=by rw [hly,aR _ _ (by simp)]
 rw [HLX.out] at hra;rw [HLY.out];obtain ⟨CX,HCX⟩:∃C,Hid (C=(LX.map oV).toArray):=⟨_,Lib.hid rfl⟩
 obtain ⟨CY,HCY⟩:∃C,Hid (C=(LY.map oV).toArray):=⟨_,Lib.hid rfl⟩
 rw [← HCY.out];have Hcx:=Lib.hid hcx;have Hcy:=Lib.hid hcy;have HX0:=Lib.hid hx;have HY0:=Lib.hid hy;have HG0:=Lib.hid hG;clear hcx hcy hlx hly hx hy hG;simp only [gQ,Ae,El,xY,List.drop];go_upto_region 4 with ((with_reducible refine aF (f:=oV) (l:=bf ⟨List.replicate 256 0,0,[],[]⟩ on on) (l':=LY) (t:=166) (C:=CY) hTY (.tmp 7) (.tmp 30) ?_ ?_ pb ?_ HCY.out ?_ hrb hLz bC ?_);rfl;rfl;rfl;rfl;(intro W4 hs4 hG4 KZ));have hk4:=dL.D9 hrb hG4;have hrx:=hra.grown hG4 (fun e=>by injection e with e;exact Hab.out e);have HQX:Hid (xH W4 pa x xn xa):=Lib.hid ((HX0.out.keep hk4).q (by rw [HLX.out];exact hrx) Hcx.out);have HQY:Hid (xH W4 pb y yn ya):=Lib.hid ((HY0.out.keep hk4).q (by rw [HLY.out];exact hs4) Hcy.out);have hB4:Below Wb.heap.size Wb W4:=HG0.out.grown hG4 HG0.out.size (fun k e=>by injection e with e;omega);have r4:=rR.below hB4 rR.lt;have bw4:Below tb w W4:=bB.trans (hB4.mono (by have:=rR.lt;omega));have r4l:=r4.lt;clear hk4 hra hrb hG4 KZ HX0 HY0 HG0 hB4 hLz rA rB rR bB hpa hpb Hn0 HAb HBb;obtain ⟨J,HJ⟩:∃J,Hid (Br x y=J):=⟨_,Lib.hid rfl⟩
 have Yz:∀c∈x.cell,c<65536:=fun c hc=>by have h1:=Be.out.1.cb c hc;have h2:=Be.out.1.lY;omega
 have hyc:∀c∈y.cell,c<65536:=fun c hc=>by have h1:=HXB.out.1.cb c hc;have h2:=HXB.out.1.lY;omega
 have hjo:=UK W4 CX CY x y (by rw [HCX.out,← HLX.out];exact HQX.out.Zr.at') (by rw [HCY.out,← HLY.out];exact HQY.out.Zr.at') Yz hyc;rw [HJ.out] at hjo;have Hjo:=Lib.hid hjo;have vM:Hid (JS.Ok 256 J):=Lib.hid (by rw [← HJ.out];exact jQ _ _ 256 (af _));have aaY:Hid (1≤J.bs.length):=Lib.hid (by rw [← HJ.out];exact wO _ _ 255);clear Yz hyc hjo
 go_wp2_with (first
  | ((with_reducible refine zL hrx.at hTX HCX.out ?_))
  | ((with_reducible refine zL hs4.at hTY HCY.out ?_)))
 refine Hjo.out.mono ?_;rintro e Wg ⟨pj,cj,rfl,ZW,hBg⟩;have hAJ:bR Tryz.prog 152 J.cell.length:=by rw [vM.out.cl];exact OP
 have hzl:J.cell.length=(List.replicate 256 0).length:=by rw [vM.out.cl,SY]
 have rc:=H7 (w:=Wg) rfl
 go_upto_region 5 with (first
  | ((with_reducible refine gy (t:=152) mE BQ ?_ ?_ Wg.heap.size ?_ ?_);rfl;rfl;rfl)
  | ((with_reducible refine aF (f:=nV) (l:=List.replicate 256 0) (l':=J.cell) (t:=152) (C:=wT J.cell) hAJ (.tmp 8) (.tmp 35) ?_ ?_ Wg.heap.size ?_ rfl ?_ rc hzl tL ?_);rfl;rfl;rfl;rfl;(intro Wh hsh hGh hzh)))
 have Gi:Below Wg.heap.size Wg (Wg.alloc (.cells mE 152)):=(ak _ _).alloc (af _) _;have Sd:Below Wg.heap.size Wg Wh:=Gi.grown hGh (by rw [bO];omega) (fun k e=>by injection e with e;omega);have Lm:Below W4.heap.size W4 Wh:=hBg.trans (Sd.mono hBg.size);have adH:=Lib.hid (HQX.out.below Lm);have aek:=Lib.hid (HQY.out.below Lm);have rH:=r4.below Lm r4l;have bH:Below tb w Wh:=bw4.trans (Lm.mono (by omega));have HOh:=Lib.hid ((ZW.below' Sd).rd);have abf:=hsh.lt;have rHl:=rH.lt;clear hs4 hrx r4 r4l bw4 ZW hBg rc hGh hzh Gi Sd Lm HQX HQY Hjo;obtain ⟨cb,ac8⟩:∃b,Hid (Wg.heap.size=b):=⟨_,Lib.hid rfl⟩
 rw [ac8.out] at hsh abf ⊢;clear ac8;clear Wg
 have e0:(Wh.alloc (.cells #[.nilFunc] 287)).cell? ⟨Wh.heap.size,0,none⟩=some .nilFunc:=by
  unfold World.cell?;rw [World.alloc_heap_new];rfl
 have f0:(Wh.alloc (.cells #[.nilFunc] 287)).frozen? ⟨Wh.heap.size,0,none⟩=false:=by
  unfold World.frozen?;rw [World.alloc_heap_new];rfl
 have hst:(Go.store ⟨Wh.heap.size,0,none⟩ (Value.func (.func 181) #[] #[.pointer (some ⟨pa,0,none⟩)])).run Tryz.prog (Wh.alloc (.cells #[.nilFunc] 287))= .ok () ((Wh.alloc (.cells #[.nilFunc] 287)).setCell ⟨Wh.heap.size,0,none⟩ (Value.func (.func 181) #[] #[.pointer (some ⟨pa,0,none⟩)])):=by
  rw [run_store _ _ _ _ _ rfl,e0];simp [f0]
 have ZG:(Wh.alloc (.cells #[Value.func (.func 181) #[] #[.pointer (some ⟨pa,0,none⟩)]] 287)).heap[Wh.heap.size]?=some (.cells #[Value.func (.func 181) #[] #[.pointer (some ⟨pa,0,none⟩)]] 287):=by
  rw [World.alloc_heap_new]
 have Ri:Below Wh.heap.size Wh (Wh.alloc (.cells #[Value.func (.func 181) #[] #[.pointer (some ⟨pa,0,none⟩)]] 287)):=(ak _ _).alloc (af _) _;clear e0 f0;go_upto_region 7 with (fail);clear hst;generalize (Wh.alloc (.cells #[Value.func (.func 181) #[] #[.pointer (some ⟨pa,0,none⟩)]] 287))=Wi at ZG Ri ⊢;have ad2:=Lib.hid (adH.out.below Ri);have ac6:=Lib.hid (aek.out.below Ri);have rI:=rH.below Ri rHl;have bI:Below tb w Wi:=bH.trans (Ri.mono (by omega));have hcI:=hsh.below Ri abf;have HOi:=Lib.hid (HOh.out.below Ri);have adS:Wh.heap.size<Wi.heap.size:=(jB.1 ZG).1;have rIl:=rI.lt;have aft:=hcI.lt;clear adH aek rH bH hsh HOh Ri rHl abf;obtain ⟨eb,Heb⟩:∃b,Hid (Wh.heap.size=b):=⟨_,Lib.hid rfl⟩
 rw [Heb.out] at ZG adS ⊢;clear Heb;clear Wh
 have HFC:Hid (∀X,Below Wi.heap.size Wi X→X.cell? ⟨eb,0,none⟩=some (.func (.func 181) #[] #[.pointer (some ⟨pa,0,none⟩)])):=Lib.hid fun X h=>by
  unfold World.cell?;rw [h.block eb adS,ZG];rfl
 clear ZG;obtain ⟨S,zC⟩:∃S,Hid (P7 x y=S):=⟨_,Lib.hid rfl⟩
 have adb:Hid (A.cat B=UH S):=Lib.hid (by unfold DF.cat;rw [Hx.out,Hy.out,zC.out]);have HSe:Hid (vH J.cell J.bs (tq x jM) (vI x y) (fun s=>y.some s.2.2) 4096 4096=S):=Lib.hid (by rw [← zC.out];unfold P7;rw [HJ.out]);have HBs:Hid (∀c∈J.bs,c<256):=Lib.hid fun c hc=>vM.out.bb c hc
 have HCb:Hid (∀c∈J.cell,c<J.bs.length):=Lib.hid fun c hc=>by
  have h1:=vM.out.cb c hc;have h2:=vM.out.bl;have h3:=aaY.out;omega
 have ag1:Hid (x.nx.length≤64∧1≤x.nx.length):=Lib.hid ⟨Be.out.2,Be.out.1.n1⟩;obtain ⟨T0,HT0⟩:∃T,Hid (S.getD zT=T):=⟨_,Lib.hid rfl⟩
 obtain ⟨b0,Hb0⟩:∃b,Hid (S.isSome=b):=⟨_,Lib.hid rfl⟩
 have HTC:Hid (T0.cell.length=256):=Lib.hid (by
  rw [← HT0.out]
  cases hS:S with
  | none=>simp
  | some T=>
   have h:=HSe.out
   rw [hS] at h
   unfold vH at h
   obtain ⟨z,_,h2⟩:=Option.map_eq_some_iff.1 h
   rw [← h2]
   exact vM.out.cl)
 refine oG 13 [some 40,some 41,some 42,some 43,some 44,some 45,some 46,some 47,some 39,some 48,some 49,some 12,none] (fun _ X=>Below Wi.heap.size Wi X) (PhE Wi.heap.size J (.slice pj J.bs.length cj) pa pb eb x T0 b0) PsE rfl (by kernel_rfl) (by kernel_rfl) (ak _ _).drew ?_ ?_
 ·intro i o hi ho a X dn val hK hd hdn hG;have hst:∀{i:Nat} {v:Value} {X':World},i≠11∧i≠12→Below X.heap.size X X'→∀j,j<13→j≠i→dn j=true→PhE Wi.heap.size J (.slice pj J.bs.length cj) pa pb eb x T0 b0 j (val j) X'∧PsE i j v (val j)∧PsE j i (val j) v:=fun h hb j hj _ hdj=>⟨Jv (hK.got j hj hdj) hb,VU h j _ _⟩
  match i,hi,ho with
  | 0,_,ho=>
   obtain rfl:=eG ho;exact rC (f:=nV) (lv:=J.cell) hAJ (.tmp 8) rfl cb 0 (by show a.tmps.getD 8 undef=_;rw [hK.old 8 (by decide)];rfl) (hcI.below hG aft).at rfl ⟨_,rfl,hG,rfl,hst (by decide) (ak _ _)⟩
  | 1,_,ho=>
   obtain rfl:=eG ho;have e0:a.eval (.tmp 9)= .slice pj J.bs.length cj:=by show a.tmps.getD 9 undef=_;rw [hK.old 9 (by decide)];rfl
   exact aO (v:=a.eval (.tmp 9)) (w':=X) (by first | rfl | kernel_rfl) ⟨_,rfl,hG,e0,hst (by decide) (ak _ _)⟩
  | 2,_,ho=>
   obtain rfl:=eG ho;have e0:a.eval (.tmp 10)= .pointer (some ⟨eb,0,none⟩):=by show a.tmps.getD 10 undef=_;rw [hK.old 10 (by decide)];rfl
   have hc:=HFC.out X hG;refine aO (v:= .func (.func 181) #[] #[.pointer (some ⟨pa,0,none⟩)]) (w':=X) ?_ ⟨_,rfl,hG,rfl,hst (by decide) (ak _ _)⟩;unfold execOp;simp only [e0];go_simp
  | 3,_,ho=>
   obtain rfl:=eG ho;exact aO (v:= .agg (dh jM)) (w':=X) (by first | rfl | kernel_rfl) ⟨_,rfl,hG,rfl,hst (by decide) (ak _ _)⟩
  | 4,_,ho=>
   obtain rfl:=eG ho
   have e2:a.eval (.tmp 42)= .func (.func 181) #[] #[.pointer (some ⟨pa,0,none⟩)]:=by
    show a.tmps.getD 42 undef=_;rw [hK.slot 2 (by decide) (hd 2 (by kernel_rfl)) 42 rfl];exact hK.got 2 (by decide) (hd 2 (by kernel_rfl))
   have e3:a.eval (.tmp 43)= .agg (dh jM):=by
    show a.tmps.getD 43 undef=_;rw [hK.slot 3 (by decide) (hd 3 (by kernel_rfl)) 43 rfl];exact hK.got 3 (by decide) (hd 3 (by kernel_rfl))
   refine jP rfl (g:=181) (args:= #[.agg (dh jM), .pointer (some ⟨pa,0,none⟩)]) ?_ ?_
   ·have hen:∀(args:Array Value) (w:World),Sem.run Tryz.prog (callFunc 181 args) w= .ok (.enter 181 args) w:=fun args w=>by kernel_rfl
    simp [execOp,resolve,invoke,Deferred.ofValue,e2,e3,hen]
   refine (Mt X pa x xn xa (ad2.out.below hG) Be.out.1 jM Be.out.1.n1).mono ?_;rintro e X' ⟨rfl,hb⟩;exact ⟨_,rfl,_,rfl,hG.trans (hb.mono hG.size),rfl,hst (by decide) hb⟩
  | 5,_,ho=>
   obtain rfl:=eG ho;have e0:a.eval (.tmp 11)= .func (.func 182) #[] #[.pointer (some ⟨eb,0,none⟩), .pointer (some ⟨pa,0,none⟩), .pointer (some ⟨pb,0,none⟩)]:=by show a.tmps.getD 11 undef=_;rw [hK.old 11 (by decide)];rfl
   exact aO (v:=a.eval (.tmp 11)) (w':=X) (by first | rfl | kernel_rfl) ⟨_,rfl,hG,e0,hst (by decide) (ak _ _)⟩
  | 6,_,ho=>
   obtain rfl:=eG ho;have e0:a.eval (.tmp 7)= .pointer (some ⟨pb,0,none⟩):=by show a.tmps.getD 7 undef=_;rw [hK.old 7 (by decide)];rfl
   exact aO (v:= .func (.func 185) #[] #[a.eval (.tmp 7)]) (w':=X) (by first | rfl | kernel_rfl) ⟨_,rfl,hG,by rw [e0];rfl,hst (by decide) (ak _ _)⟩
  | 7,_,ho=>
   obtain rfl:=eG ho;have sl:∀i d,i<13→dn i=true→[some 40,some 41,some 42,some 43,some 44,some 45,some 46,some 47,some 39,some 48,some 49,some 12,none][i]?=some (some d)→a.eval (.tmp d)=val i:=fun i d h1 h2 h3=>hK.slot i h1 h2 d h3;have e0:a.eval (.tmp 40)= .agg (wT J.cell):=by rw [sl 0 40 (by decide) (hd 0 (by kernel_rfl)) rfl];exact hK.got 0 (by decide) (hd 0 (by kernel_rfl))
   have e1:a.eval (.tmp 41)= .slice pj J.bs.length cj:=by rw [sl 1 41 (by decide) (hd 1 (by kernel_rfl)) rfl];exact hK.got 1 (by decide) (hd 1 (by kernel_rfl))
   have e4:a.eval (.tmp 44)= .agg (dh (tq x jM)):=by rw [sl 4 44 (by decide) (hd 4 (by kernel_rfl)) rfl];exact hK.got 4 (by decide) (hd 4 (by kernel_rfl))
   have e5:a.eval (.tmp 45)= .func (.func 182) #[] #[.pointer (some ⟨eb,0,none⟩), .pointer (some ⟨pa,0,none⟩), .pointer (some ⟨pb,0,none⟩)]:=by rw [sl 5 45 (by decide) (hd 5 (by kernel_rfl)) rfl];exact hK.got 5 (by decide) (hd 5 (by kernel_rfl))
   have e6:a.eval (.tmp 46)= .func (.func 185) #[] #[.pointer (some ⟨pb,0,none⟩)]:=by rw [sl 6 46 (by decide) (hd 6 (by kernel_rfl)) rfl];exact hK.got 6 (by decide) (hd 6 (by kernel_rfl))
   refine jP rfl (g:=184) (args:= #[a.eval (.tmp 40),a.eval (.tmp 41),a.eval (.tmp 44),a.eval (.tmp 45),a.eval (.tmp 46), .int .i64 4096]) (by first | rfl | kernel_rfl) ?_;rw [e0,e1,e4,e5,e6]
   have Bc:NxC X 182 #[.pointer (some ⟨eb,0,none⟩), .pointer (some ⟨pa,0,none⟩), .pointer (some ⟨pb,0,none⟩)] (fun s=>s.1<x.nx.length∧s.2.1=0) J.bs (vI x y):=
    ⟨fun args w=>by kernel_rfl,fun Y hY s hs c hc=>aa4 Y eb pa pb x y xn xa yn ya (fun Z hZ=>HFC.out Z ((hG.trans (hY.mono hG.size)).trans (hZ.mono (aJ hG.size hY.size)))) (ad2.out.below (hG.trans (hY.mono hG.size))) (ac6.out.below (hG.trans (hY.mono hG.size))) Be.out.1 HXB.out.1 HXB.out.2 s hs.1 c (HBs.out c hc)⟩
   have hAc:AcC X 185 #[.pointer (some ⟨pb,0,none⟩)] (fun s=>s.1<x.nx.length∧s.2.1=0) (fun s=>y.some s.2.2):=
    ⟨fun args w=>by kernel_rfl,fun Y hY s _=>acC Y pb y yn ya (ac6.out.below (hG.trans (hY.mono hG.size))) HXB.out.1 HXB.out.2 s⟩
   refine (MJ X (wT J.cell) J.cell rfl vM.out.cl _ J.bs (HOi.out.below hG) vM.out.le (fun s=>s.1<x.nx.length∧s.2.1=0) (tq x jM) ⟨by rw [(fu x jM).1];exact Be.out.1.n1,(fu x jM).2⟩ (fun s h=>⟨by have:=Be.out.2;omega,by rw [h.2];decide⟩) (vI x y) (fun s=>y.some s.2.2)
    (fun s hs c hc=>⟨by unfold vI;rw [(fu x _).1];exact Be.out.1.SK hs.1 (HBs.out c hc),by unfold vI;rw [(fu x _).2]⟩) _ _ _ _ Bc hAc 4096 4096 (by decide) (by decide) (fun l h=>h.le) (by decide)).mono ?_
   rintro e X' ⟨hb,hE⟩;rw [HSe.out] at hE;obtain ⟨tn,ta,rfl,hS,_⟩:=SX hE;rw [HT0.out,Hb0.out];rw [HT0.out] at hS;exact ⟨_,rfl,_,rfl,hG.trans (hb.mono hG.size),⟨tn,ta,rfl,hS⟩,hst (by decide) hb⟩
  | 8,_,ho=>
   obtain rfl:=eG ho;have e0:a.eval (.tmp 47)=val 7:=hK.slot 7 (by decide) (hd 7 (by kernel_rfl)) 47 rfl;exact aO (v:=a.eval (.tmp 47)) (w':=X) (by first | rfl | kernel_rfl) ⟨_,rfl,hG,by rw [e0];exact hK.got 7 (by decide) (hd 7 (by kernel_rfl)),hst (by decide) (ak _ _)⟩
  | 9,_,ho=>
   obtain rfl:=eG ho;obtain ⟨tn,ta,h1,h2⟩:=hK.got 8 (by decide) (hd 8 (by kernel_rfl));have e0:a.eval (.tmp 39)= .tuple #[.agg ((bf T0 tn ta).map oV).toArray, .bool b0]:=(hK.slot 8 (by decide) (hd 8 (by kernel_rfl)) 39 rfl).trans h1;refine aO (v:= .agg ((bf T0 tn ta).map oV).toArray) (w':=X) ?_ ⟨_,rfl,hG,⟨tn,ta,rfl,h2⟩,hst (by decide) (ak _ _)⟩;unfold execOp;simp only [e0];go_simp
  | 10,_,ho=>
   obtain rfl:=eG ho;obtain ⟨tn,ta,h1,h2⟩:=hK.got 8 (by decide) (hd 8 (by kernel_rfl));have e0:a.eval (.tmp 39)= .tuple #[.agg ((bf T0 tn ta).map oV).toArray, .bool b0]:=(hK.slot 8 (by decide) (hd 8 (by kernel_rfl)) 39 rfl).trans h1;refine aO (v:= .bool b0) (w':=X) ?_ ⟨_,rfl,hG,rfl,hst (by decide) (ak _ _)⟩;unfold execOp;simp only [e0];go_simp
  | 11,_,ho=>
   obtain rfl:=eG ho;have hb:Below X.heap.size X (X.alloc (.cells fP 166)):=(ak _ _).alloc (af _) _;refine aO (v:= .pointer (some ⟨X.heap.size,0,none⟩)) (w':=X.alloc (.cells fP 166)) (by kernel_rfl) ⟨_,rfl,hG.trans (hb.mono hG.size),⟨X.heap.size,bf ⟨List.replicate 256 0,0,[],[]⟩ on on,rfl,hG.size,aR _ _ (by simp),Row.new _ _ rfl⟩,?_⟩;intro j hj hji hdj;refine ⟨Jv (hK.got j hj hdj) hb,fun _ e=> ?_,fun _ e=>(by cases e)⟩;subst e;have:=hK.clo 12 _ (by decide) rfl hdj 11 (by kernel_rfl);rw [hdn] at this;cases this
  | 12,_,ho=>
   obtain rfl:=eG ho;obtain ⟨p,L,h1,hp0,hL,hr⟩:=hK.got 11 (by decide) (hd 11 (by kernel_rfl));obtain ⟨vn,va,h3,h4⟩:=hK.got 9 (by decide) (hd 9 (by kernel_rfl));have e6:a.eval (.tmp 12)= .pointer (some ⟨p,0,none⟩):=(hK.slot 11 (by decide) (hd 11 (by kernel_rfl)) 12 rfl).trans h1;have e26:a.eval (.tmp 48)= .agg ((bf T0 vn va).map oV).toArray:=(hK.slot 9 (by decide) (hd 9 (by kernel_rfl)) 48 rfl).trans h3;have hl:(bf T0 vn va).length=259:=aR _ _ HTC.out;refine FM (f:=oV) (lv:=L) (l':=bf T0 vn va) (ty:=166) (t:=166) (by rw [hl];exact iR) (.tmp 12) (.tmp 48) rfl p e6 rfl e26 hr (by rw [hl,hL]) bC ?_;intro X' hr' YP hz';have hk:=dL.D9 hr YP;have hbG:Below Wi.heap.size Wi X':=hG.grown YP hG.size (fun k e=>by injection e with e;omega);refine ⟨.pointer (some ⟨p,0,none⟩),rfl,hbG,⟨p,vn,va,rfl,hp0,h4.keep hk,hr'⟩,?_⟩;intro j hj hji hdj;refine ⟨?_,fun e=>(by cases e),fun e _=>(by subst e;exact h1)⟩;have hgj:=hK.got j hj hdj
   match j,hj,hji,hdj,hgj with
   | 0,_,_,_,h=>exact h
   | 1,_,_,_,h=>exact h
   | 2,_,_,_,h=>exact h
   | 3,_,_,_,h=>exact h
   | 4,_,_,_,h=>exact h
   | 5,_,_,_,h=>exact h
   | 6,_,_,_,h=>exact h
   | 7,_,_,_,⟨un,ua,g1,g2⟩=>exact ⟨un,ua,g1,g2.keep hk⟩
   | 8,_,_,_,⟨un,ua,g1,g2⟩=>exact ⟨un,ua,g1,g2.keep hk⟩
   | 9,_,_,_,⟨un,ua,g1,g2⟩=>exact ⟨un,ua,g1,g2.keep hk⟩
   | 10,_,_,_,h=>exact h
   | 11,_,_,_,_=>exact ⟨p,bf T0 vn va,h1,hp0,hl,hr'⟩
   | 12,_,hne,_,_=>exact absurd rfl hne
 intro vs X dn hvl vP Ob _ hG;obtain ⟨u0,u1,u2,u3,u4,u5,u6,u7,u8,u9,u10,u11,u12,rfl⟩:=acX vs hvl;obtain ⟨pt,tn,ta,af1,hpt,ht,hrt⟩:PhE Wi.heap.size J (.slice pj J.bs.length cj) pa pb eb x T0 b0 12 u12 X:=vP 12 (by decide);have Ve:u10= .bool b0:=vP 10 (by decide);have afw:u11=u12:=Ob 11 12 (by decide) (by decide) (by decide) rfl rfl;subst afw Ve;subst af1;have rX:=rI.below hG rIl;have bX:Below tb w X:=bI.trans (hG.mono (by omega));have agF:=hrt.lt;obtain ⟨LT,Ip⟩:∃L,Hid (bf T0 tn ta=L):=⟨_,Lib.hid rfl⟩
 have hlt:LT.length=259:=by rw [← Ip.out];exact aR _ _ HTC.out
 have hTT:bR Tryz.prog 166 LT.length:=by rw [hlt];exact iR
 have HTA:Hid (kz X (LT.map oV).toArray T0):=Lib.hid (by rw [← Ip.out];exact ((ht.q hrt HTC.out).Zr).at');rw [Ip.out] at hrt;obtain ⟨CT,HCT⟩:∃C,Hid (C=(LT.map oV).toArray):=⟨_,Lib.hid rfl⟩
 rw [← HCT.out] at HTA;clear vP Ob hvl ht hG rI bI hcI hlt;simp only [gQ,Ae,El,xY,List.drop];have rXl:=rX.lt;have hSb:=Hb0.out;cases b0 with
 | false=>
  have HE2:Hid (A.cat B= .error 2):=Lib.hid (by
   rw [adb.out]
   cases hS:S with
   | none=>rfl
   | some T=>rw [hS] at hSb;cases hSb)
  go_wp2_with ((with_reducible refine zS (l':=[on,on,on]) rX bN ?_);(intro W9 iH dw sN));have dO:Below tb w W9:=bX.grown dw (by have:=bX.size;rw [dx.out] at this;omega) (fun k e=>by injection e with e;omega);refine bodyPost_ret (v:= .tuple #[.agg #[.slice none 0 0, .slice none 0 0, .slice none 0 0], .int .i64 2]) (bD (f:=oV) (l:=[on,on,on]) (t:=5) rfl _ bN (tb+2) 0 rfl iH.at) rfl ?_;exact ⟨_,rfl,by rw [HE2.out];rfl,by rw [dx.out];exact dO⟩
 | true=>
  have HE2:Hid (A.cat B=lim T0∧T0.Ok):=Lib.hid (by
   cases hS:S with
   | none=>rw [hS] at hSb;cases hSb
   | some T=>
    have hT:T=T0:=by rw [← HT0.out,hS];rfl
    rw [adb.out,hS,hT]
    refine ⟨rfl,?_⟩
    have h:=HSe.out
    rw [hS,hT] at h
    exact Dn (ok:=fun s=>s.1<x.nx.length∧s.2.1=0) (K:=4096) ⟨by rw [(fu x jM).1];exact Be.out.1.n1,(fu x jM).2⟩ (by decide) (fun s hs c hc=>⟨by unfold vI;rw [(fu x _).1];exact Be.out.1.SK hs.1 (HBs.out c hc),by unfold vI;rw [(fu x _).2]⟩) (fun l h=>h.le) (by decide) vM.out.cl vM.out.le HCb.out h)
  clear hSb;go_wp2_with ((with_reducible refine zL hrt.at hTT HCT.out ?_));refine (adL X CT T0 HTA.out HE2.out.2).mono ?_;rintro e Wk ⟨z2,rfl,hv2,vF⟩;have hRk:=rX.below vF rXl;have Ju:Below tb w Wk:=bX.trans (vF.mono (by have:=bX.size;rw [dx.out] at this;omega));obtain ⟨R,Kc⟩:∃R,Hid (lim T0=R):=⟨_,Lib.hid rfl⟩
  rw [Kc.out] at hv2;have HE3:Hid (A.cat B=R):=Lib.hid (HE2.out.1.trans Kc.out);clear vF rX hrt;cases hds:R with
  | error n=>
   rw [hds] at hv2;have TV:Hid (A.cat B= .error n):=Lib.hid (HE3.out.trans hds);cases hv2;clear hds;go_wp2_with ((with_reducible refine zS (l':=[on,on,on]) hRk bN ?_);(intro W9 iH dw sN));have dO:Below tb w W9:=Ju.grown dw (by have:=hRk.lt;omega) (fun k e=>by injection e with e;omega);refine bodyPost_ret (v:= .tuple #[.agg #[.slice none 0 0, .slice none 0 0, .slice none 0 0], .int .i64 (n:Int)]) (bD (f:=oV) (l:=[on,on,on]) (t:=5) rfl _ bN (tb+2) 0 rfl iH.at) rfl ?_;exact ⟨_,rfl,by rw [TV.out];rfl,by rw [dx.out];exact dO⟩
  | ok E=>
   rw [hds] at hv2;have TV:Hid (A.cat B= .ok E):=Lib.hid (HE3.out.trans hds)
   have HEO:Hid E.Ok:=Lib.hid (by
    have h:lim T0= .ok E:=Kc.out.trans hds
    unfold lim at h
    split at h
    ·injection h with h;rw [← h];exact HE2.out.2.canon.1
    ·cases h)
   obtain ⟨u,rfl,hu⟩:=hv2;obtain ⟨q1,j1,q2,j2,q3,j3,rfl⟩:=hu.parts;have HU:=Lib.hid hu;obtain ⟨m1,Hm1⟩:∃n,Hid (E.cls.length=n):=⟨_,Lib.hid rfl⟩
   obtain ⟨m2,Hm2⟩:∃n,Hid (E.nx.length=n):=⟨_,Lib.hid rfl⟩
   obtain ⟨m3,Hm3⟩:∃n,Hid (E.ac.length=n):=⟨_,Lib.hid rfl⟩
   rw [Hm1.out,Hm2.out,Hm3.out] at HU ⊢;clear hds hu;go_wp2_with ((with_reducible refine zS (l':=bF q1 m1 j1 q2 m2 j2 q3 m3 j3) hRk bN ?_);(intro W9 iH dw sN));have dO:Below tb w W9:=Ju.grown dw (by have:=hRk.lt;omega) (fun k e=>by injection e with e;omega);refine bodyPost_ret (v:= .tuple #[.agg #[.slice q1 m1 j1, .slice q2 m2 j2, .slice q3 m3 j3], .int .i64 0]) (bD (f:=oV) (l:=bF q1 m1 j1 q2 m2 j2 q3 m3 j3) (t:=5) rfl _ bN (tb+2) 0 rfl iH.at) rfl ?_;refine ⟨_,rfl,?_,by rw [dx.out];exact dO⟩;rw [TV.out];exact ⟨_,rfl,HU.out.avoid HEO.out hRk dw⟩
end
section
open Go Go.RowKit Mem
theorem Iw {w:World} {b:Nat} {t:TypeId} {p1 p2 p3:Option Addr} {n1 k1 n2 k2 n3 k3:Nat} (hr:Row oV w b t (bF p1 n1 k1 p2 n2 k2 p3 n3 k3)) (i:Nat) (v:Value) (h:w.cell? ⟨b,i,none⟩=some v):v= .slice p1 n1 k1∨v= .slice p2 n2 k2∨v= .slice p3 n3 k3:=by
 rw [hr.cell?] at h
 match i,h with
 | 0,h=>injection h with h;exact .inl h.symm
 | 1,h=>injection h with h;exact .inr (.inl h.symm)
 | 2,h=>injection h with h;exact .inr (.inr h.symm)
 | n+3,h=>cases h
theorem Ka {α:Type} {f:α→Value} {w w':World} {v:Value} {l:List α} {b:Nat} {t:TypeId} {p1 p2 p3:Option Addr} {n1 k1 n2 k2 n3 k3:Nat} (h:Rd f w v l) (hf:∀x p n k,f x≠ .slice p n k) (hr:Row oV w b t (bF p1 n1 k1 p2 n2 k2 p3 n3 k3)) (hg:w.grownBy w' (some b)):Rd f w' v l:=by
 rcases h with hn | ⟨g,o,cap,rfl,hc,ha,hlt⟩
 ·exact .inl hn
 ·by_cases h0:0<l.length
  ·refine .inr ⟨g,o,cap,rfl,hc,ha.grown hg hlt (fun e=> ?_),bJ hlt hg.size⟩;injection e with e
   subst e;have:=ha 0 h0;rw [bK h0] at this;rcases Iw hr _ _ this with h | h | h<;>exact hf _ _ _ _ h
  ·exact .inr ⟨g,o,cap,rfl,hc,fun i hi=>by omega,bJ hlt hg.size⟩
theorem nR {w:World} {p:Option Addr} {n k:Nat} {l:List Nat} (h:Rd nV w (.slice p n k) l) (h0:0<l.length):∃b o x,p=some ⟨b,o,none⟩∧w.cell? ⟨b,o,none⟩=some (.int .i64 x):=by
 rcases h with ⟨_,_,e⟩ | ⟨b,o,cap,e,_,ha,_⟩
 ·rw [e] at h0;cases h0
 ·injection e with e
  have:=ha 0 h0;rw [bK h0] at this;exact ⟨b,o,_,e,this⟩
theorem dm.acS {w w':World} {v:Value} {D P:DF} {b:Nat} {t:TypeId} {p1 p2 p3:Option Addr} {n1 k1 n2 k2 n3 k3:Nat} (h:dm w v D) (hD:D.Ok) (hp:dm w (.agg #[.slice p1 n1 k1, .slice p2 n2 k2, .slice p3 n3 k3]) P) (hP:P.Ok) (hr:Row oV w b t (bF p1 n1 k1 p2 n2 k2 p3 n3 k3)) (hg:w.grownBy w' (some b)):dm w' v D:=by
 obtain ⟨vc,vn,va,rfl,h1,h2,h3⟩:=h;refine ⟨vc,vn,va,rfl,?_,?_,Ka h3 (fun x _ _ _ e=>by cases e) hr hg⟩
 ·rcases h1 with hn | ⟨g,o,cap,rfl,hc,ha,hlt⟩
  ·exact .inl hn
  ·refine .inr ⟨g,o,cap,rfl,hc,fun i hi=>(ha i hi).grown hg hlt (fun e=> ?_),bJ hlt hg.size⟩;injection e with e
   subst e;have:=ha i hi 0 (by show 0<4;omega);rcases Iw hr _ _ this with h | h | h<;>cases h
 ·rcases h2 with hn | ⟨g,o,cap,rfl,hc,ha,hlt⟩
  ·exact .inl hn
  ·refine .inr ⟨g,o,cap,rfl,hc,fun i hi=> ?_,bJ hlt hg.size⟩;obtain ⟨u,e1,e2⟩:=ha i hi;refine ⟨u,(o6 (a:=⟨g,o+i,none⟩) (hg.block g hlt (fun e=> ?_))).trans e1,Ka e2 (fun x _ _ _ e=>by cases e) hr hg⟩;injection e with e
   subst e;have hl:=hD.rw _ (oO hi);have hc1:=hD.c1;have h0:0<(D.nx[i]).length:=by omega
   obtain ⟨wc,wn,wa,ew,q1,q2,q3⟩:=hp;injection ew with ew
   simp only [SC,GK,and_true] at ew;obtain ⟨rfl,rfl,rfl⟩:=ew;have e3:=Iw hr _ _ e1;have hpc:=hP.c1;have hpn:=hP.n1;have hpa:=hP.ac;rcases e3 with rfl | rfl | rfl
   ·obtain ⟨bb,oo,x,rfl,hx⟩:=nR e2 h0;rcases q1 with ⟨_,_,e⟩ | ⟨b2,o2,c2,e,_,ha2,_⟩
    ·rw [e] at hpc;exact absurd hpc (by simp)
    ·injection e with e
     injection e with e
     injection e with ea eb
     subst ea eb;have:=ha2 0 (by omega) 0 (by show 0<4;omega);simp only [TT,yh] at this;rw [hx] at this;cases this
   ·obtain ⟨bb,oo,x,rfl,hx⟩:=nR e2 h0;rcases q2 with ⟨_,_,e⟩ | ⟨b2,o2,c2,e,_,ha2,_⟩
    ·rw [e] at hpn;exact absurd hpn (by simp)
    ·injection e with e
     injection e with e
     injection e with ea eb
     subst ea eb;obtain ⟨u,hu1,hu2⟩:=ha2 0 (by omega);simp only [yh] at hu1;rw [hx] at hu1;injection hu1 with hu1
     subst hu1;rcases hu2 with ⟨_,e,_⟩ | ⟨_,_,_,e,_⟩<;>cases e
   ·obtain ⟨bb,oo,x,rfl,hx⟩:=nR e2 h0;rcases q3 with ⟨_,_,e⟩ | ⟨b2,o2,c2,e,_,ha2,_⟩
    ·rw [e] at hpa;simp at hpa;omega
    ·injection e with e
     injection e with e
     injection e with ea eb
     subst ea eb;have h03:0<P.ac.length:=by omega
     have:=ha2 0 h03;rw [bK h03] at this;simp only [yh] at this;rw [hx] at this;cases this
theorem af4 (w:World) (vp vd:Value) (P D:DF) (hp:dm w vp P) (hd:dm w vd D) (hP:P.Ok):
  Calls Tryz.prog 191 #[vp,vd, .int .i64 0] w fun e w'=>∃v,e= .returned v∧fF w' v (.ok P)∧Below w.heap.size w w':=by
 have HPO:=Lib.hid hP;have HE:Hid (∀(w':World) u,dm w' u P→fF w' (.tuple #[u, .int .i64 0]) (.ok P)):=Lib.hid (fun w' u h=>⟨u,rfl,h⟩);clear hP;obtain ⟨p1,oP,p2,o8,p3,oL,rfl⟩:=hp.parts;obtain ⟨oU,Hp1⟩:∃n,Hid (P.cls.length=n):=⟨_,Lib.hid rfl⟩
 obtain ⟨oZ,Hp2⟩:∃n,Hid (P.nx.length=n):=⟨_,Lib.hid rfl⟩
 obtain ⟨pF,Hp3⟩:∃n,Hid (P.ac.length=n):=⟨_,Lib.hid rfl⟩
 rw [Hp1.out,Hp2.out,Hp3.out] at hp ⊢;obtain ⟨d1,dk1,d2,dk2,d3,dk3,rfl⟩:=hd.parts;obtain ⟨eT,Oy⟩:∃n,Hid (D.cls.length=n):=⟨_,Lib.hid rfl⟩
 obtain ⟨eP,O8⟩:∃n,Hid (D.nx.length=n):=⟨_,Lib.hid rfl⟩
 obtain ⟨eO,OV⟩:∃n,Hid (D.ac.length=n):=⟨_,Lib.hid rfl⟩
 rw [Oy.out,O8.out,OV.out] at hd ⊢;clear hd;have HP:=Lib.hid hp;clear hp
 obtain ⟨W,hW,hB,rp,rd,ro⟩:∃W,(((w.alloc (.cells #[.slice p1 oU oP, .slice p2 oZ o8, .slice p3 pF oL] 79)).alloc (.cells #[.slice d1 eT dk1, .slice d2 eP dk2, .slice d3 eO dk3] 79)).alloc (.cells #[.slice none 0 0, .slice none 0 0, .slice none 0 0] 79))=W∧Below w.heap.size w W∧Row oV W w.heap.size 79 (bF p1 oU oP p2 oZ o8 p3 pF oL)∧Row oV W (w.heap.size+1) 79 (bF d1 eT dk1 d2 eP dk2 d3 eO dk3)∧Row oV W (w.heap.size+2) 79 [on,on,on]:=by
  have s1:(w.alloc (.cells #[.slice p1 oU oP, .slice p2 oZ o8, .slice p3 pF oL] 79)).heap.size=w.heap.size+1:=bO _ _;have s2:((w.alloc (.cells #[.slice p1 oU oP, .slice p2 oZ o8, .slice p3 pF oL] 79)).alloc (.cells #[.slice d1 eT dk1, .slice d2 eP dk2, .slice d3 eO dk3] 79)).heap.size=w.heap.size+2:=by rw [bO,s1]
  have r1:Row oV (w.alloc (.cells #[.slice p1 oU oP, .slice p2 oZ o8, .slice p3 pF oL] 79)) w.heap.size 79 (bF p1 oU oP p2 oZ o8 p3 pF oL):=Row.new _ _ rfl;have r2:=Row.new (f:=oV) (w.alloc (.cells #[.slice p1 oU oP, .slice p2 oZ o8, .slice p3 pF oL] 79)) (t:=79) (l:=bF d1 eT dk1 d2 eP dk2 d3 eO dk3) (.cells #[.slice d1 eT dk1, .slice d2 eP dk2, .slice d3 eO dk3] 79) rfl;have r3:=Row.new (f:=oV) ((w.alloc (.cells #[.slice p1 oU oP, .slice p2 oZ o8, .slice p3 pF oL] 79)).alloc (.cells #[.slice d1 eT dk1, .slice d2 eP dk2, .slice d3 eO dk3] 79)) (t:=79) (l:=[on,on,on]) (.cells #[.slice none 0 0, .slice none 0 0, .slice none 0 0] 79) rfl;rw [s1] at r2;rw [s2] at r3;exact ⟨_,rfl,(((ak _ _).alloc (af _) _).alloc (by rw [s1];omega) _).alloc (by rw [s2];omega) _,(r1.alloc _).alloc _,r2.alloc _,r3⟩
 go_enter Tryz.func191,Tryz.ntmps191;go_upto_region 1 with (fail);clear hW;have hpl:=rp.lt;have hol:=ro.lt;go_wp2_with fail;refine wp_loop_rounds 1 ?_;refine aj (n:=0) ?_
 go_wp2_with (first
  | ((with_reducible refine aN (f:=oV) (l:=bF p1 oU oP p2 oZ o8 p3 pF oL) (C:= #[.slice p1 oU oP, .slice p2 oZ o8, .slice p3 pF oL]) bN (.tmp 3) ?_ ?_ w.heap.size 0 ?_ rp.at ?_ ?_);rfl;rfl;rfl;rfl)
  | ((with_reducible refine aF (f:=oV) (l:=[on,on,on]) (l':=bF p1 oU oP p2 oZ o8 p3 pF oL) (t:=79) (C:= #[.slice p1 oU oP, .slice p2 oZ o8, .slice p3 pF oL]) bN (.tmp 6) (.tmp 23) ?_ ?_ (w.heap.size+2) ?_ ?_ ?_ ro ?_ bC ?_);rfl;rfl;rfl;rfl;rfl;rfl;(intro WZ EC vZ Xh)))
 refine bodyPost_ret (v:= .tuple #[.agg #[.slice p1 oU oP, .slice p2 oZ o8, .slice p3 pF oL], .int .i64 0]) (bD (f:=oV) (l:=bF p1 oU oP p2 oZ o8 p3 pF oL) (t:=7) rfl _ bN (w.heap.size+2) 0 rfl EC.at) rfl ?_;exact ⟨_,rfl,HE.out _ _ ((HP.out.below hB).avoid HPO.out ro vZ),hB.grown vZ hB.size (fun k e=>by injection e with e;omega)⟩
theorem afV (w:World) (vp vd:Value) (P D R:DF) (hp:dm w vp P) (hd:dm w vd D) (hP:P.V) (hD:D.V) (hR:P.cat D= .ok R) (EH:R.Ok) (uj:gV w) (htl:1<w.heap.size):
  Calls Tryz.prog 191 #[vp,vd, .int .i64 1] w fun e w'=>∃v,e= .returned v∧fF w' v (.ok R)∧Below w.heap.size w w':=by
 have HPO:=Lib.hid hP;have GV:=Lib.hid hD;have sV:=Lib.hid EH;have HR:=Lib.hid hR;have HT:=Lib.hid uj;have iy:=Lib.hid htl;have HE:Hid (∀(w':World) u,dm w' u R→fF w' (.tuple #[u, .int .i64 0]) (.ok R)):=Lib.hid (fun w' u h=>⟨u,rfl,h⟩);clear hP hD EH hR uj htl;obtain ⟨p1,oP,p2,o8,p3,oL,rfl⟩:=hp.parts;obtain ⟨oU,Hp1⟩:∃n,Hid (P.cls.length=n):=⟨_,Lib.hid rfl⟩
 obtain ⟨oZ,Hp2⟩:∃n,Hid (P.nx.length=n):=⟨_,Lib.hid rfl⟩
 obtain ⟨pF,Hp3⟩:∃n,Hid (P.ac.length=n):=⟨_,Lib.hid rfl⟩
 rw [Hp1.out,Hp2.out,Hp3.out] at hp ⊢;obtain ⟨d1,dk1,d2,dk2,d3,dk3,rfl⟩:=hd.parts;obtain ⟨eT,Oy⟩:∃n,Hid (D.cls.length=n):=⟨_,Lib.hid rfl⟩
 obtain ⟨eP,O8⟩:∃n,Hid (D.nx.length=n):=⟨_,Lib.hid rfl⟩
 obtain ⟨eO,OV⟩:∃n,Hid (D.ac.length=n):=⟨_,Lib.hid rfl⟩
 rw [Oy.out,O8.out,OV.out] at hd ⊢;have HP:=Lib.hid hp;have HD:=Lib.hid hd;clear hp hd
 obtain ⟨W,hW,hB,rp,rd,ro⟩:∃W,(((w.alloc (.cells #[.slice p1 oU oP, .slice p2 oZ o8, .slice p3 pF oL] 79)).alloc (.cells #[.slice d1 eT dk1, .slice d2 eP dk2, .slice d3 eO dk3] 79)).alloc (.cells #[.slice none 0 0, .slice none 0 0, .slice none 0 0] 79))=W∧Below w.heap.size w W∧Row oV W w.heap.size 79 (bF p1 oU oP p2 oZ o8 p3 pF oL)∧Row oV W (w.heap.size+1) 79 (bF d1 eT dk1 d2 eP dk2 d3 eO dk3)∧Row oV W (w.heap.size+2) 79 [on,on,on]:=by
  have s1:(w.alloc (.cells #[.slice p1 oU oP, .slice p2 oZ o8, .slice p3 pF oL] 79)).heap.size=w.heap.size+1:=bO _ _;have s2:((w.alloc (.cells #[.slice p1 oU oP, .slice p2 oZ o8, .slice p3 pF oL] 79)).alloc (.cells #[.slice d1 eT dk1, .slice d2 eP dk2, .slice d3 eO dk3] 79)).heap.size=w.heap.size+2:=by rw [bO,s1]
  have r1:Row oV (w.alloc (.cells #[.slice p1 oU oP, .slice p2 oZ o8, .slice p3 pF oL] 79)) w.heap.size 79 (bF p1 oU oP p2 oZ o8 p3 pF oL):=Row.new _ _ rfl;have r2:=Row.new (f:=oV) (w.alloc (.cells #[.slice p1 oU oP, .slice p2 oZ o8, .slice p3 pF oL] 79)) (t:=79) (l:=bF d1 eT dk1 d2 eP dk2 d3 eO dk3) (.cells #[.slice d1 eT dk1, .slice d2 eP dk2, .slice d3 eO dk3] 79) rfl;have r3:=Row.new (f:=oV) ((w.alloc (.cells #[.slice p1 oU oP, .slice p2 oZ o8, .slice p3 pF oL] 79)).alloc (.cells #[.slice d1 eT dk1, .slice d2 eP dk2, .slice d3 eO dk3] 79)) (t:=79) (l:=[on,on,on]) (.cells #[.slice none 0 0, .slice none 0 0, .slice none 0 0] 79) rfl;rw [s1] at r2;rw [s2] at r3;exact ⟨_,rfl,(((ak _ _).alloc (af _) _).alloc (by rw [s1];omega) _).alloc (by rw [s2];omega) _,(r1.alloc _).alloc _,r2.alloc _,r3⟩
 have ME:=Lib.hid (RO W _ _ P D (HP.out.below hB) (HD.out.below hB) HPO.out GV.out (HT.out.below hB iy.out) (bJ iy.out hB.size));rw [HR.out] at ME;go_enter Tryz.func191,Tryz.ntmps191;go_upto_region 1 with (fail);clear hW;have hpl:=rp.lt;have hol:=ro.lt;go_wp2_with fail;refine wp_loop_rounds 2 ?_;refine aj (n:=1) ?_
 go_wp2_with (first
  | ((with_reducible refine aN (f:=oV) (l:=bF p1 oU oP p2 oZ o8 p3 pF oL) (C:= #[.slice p1 oU oP, .slice p2 oZ o8, .slice p3 pF oL]) bN (.tmp 3) ?_ ?_ w.heap.size 0 ?_ rp.at ?_ ?_);rfl;rfl;rfl;rfl)
  | ((with_reducible refine aN (f:=oV) (l:=bF d1 eT dk1 d2 eP dk2 d3 eO dk3) (C:= #[.slice d1 eT dk1, .slice d2 eP dk2, .slice d3 eO dk3]) bN (.tmp 4) ?_ ?_ (w.heap.size+1) 0 ?_ rd.at ?_ ?_);rfl;rfl;rfl;rfl))
 refine ME.out.mono ?_;rintro e W2 ⟨v,rfl,⟨u,rfl,hu⟩,hB2⟩;obtain ⟨q1,AO,q2,AY,q3,Ao,rfl⟩:=hu.parts;obtain ⟨Ah,Hq1⟩:∃n,Hid (R.cls.length=n):=⟨_,Lib.hid rfl⟩
 obtain ⟨Ar,Hq2⟩:∃n,Hid (R.nx.length=n):=⟨_,Lib.hid rfl⟩
 obtain ⟨Ag,Hq3⟩:∃n,Hid (R.ac.length=n):=⟨_,Lib.hid rfl⟩
 rw [Hq1.out,Hq2.out,Hq3.out] at hu ⊢;have rp2:=rp.below hB2 rp.lt;have ro2:=ro.below hB2 ro.lt;clear rp ro rd;go_wp2_with ((with_reducible refine aF (f:=oV) (l:=bF p1 oU oP p2 oZ o8 p3 pF oL) (l':=bF q1 Ah AO q2 Ar AY q3 Ag Ao) (t:=79) (C:= #[.slice q1 Ah AO, .slice q2 Ar AY, .slice q3 Ag Ao]) bN (.tmp 3) (.tmp 16) ?_ ?_ w.heap.size ?_ ?_ ?_ rp2 ?_ bC ?_);rfl;rfl;rfl;rfl;rfl;rfl;(intro W3 rp3 hG3 hz3);(refine bM.back ?_));have hu3:=hu.acS sV.out (HP.out.below (hB.trans (hB2.mono hB.size))) HPO.out.toOk rp2 hG3;have ro3:=ro2.grown hG3 (fun e=>by injection e with e;omega);have hB3:Below w.heap.size w W3:=(hB.trans (hB2.mono hB.size)).grown hG3 (aJ hB.size hB2.size) (fun k e=>by injection e with e;omega);have agZ:=ro3.lt;clear hu rp2 ro2 hG3 hB2 hB hpl hol;refine bM.out ?_;go_wp2_with fail;refine aj (n:=0) ?_
 go_wp2_with (first
  | ((with_reducible refine aN (f:=oV) (l:=bF q1 Ah AO q2 Ar AY q3 Ag Ao) (C:= #[.slice q1 Ah AO, .slice q2 Ar AY, .slice q3 Ag Ao]) bN (.tmp 3) ?_ ?_ w.heap.size 0 ?_ rp3.at ?_ ?_);rfl;rfl;rfl;rfl)
  | ((with_reducible refine aF (f:=oV) (l:=[on,on,on]) (l':=bF q1 Ah AO q2 Ar AY q3 Ag Ao) (t:=79) (C:= #[.slice q1 Ah AO, .slice q2 Ar AY, .slice q3 Ag Ao]) bN (.tmp 6) (.tmp 23) ?_ ?_ (w.heap.size+2) ?_ ?_ ?_ ro3 ?_ bC ?_);rfl;rfl;rfl;rfl;rfl;rfl;(intro WZ EC vZ Xh)))
 refine bodyPost_ret (v:= .tuple #[.agg #[.slice q1 Ah AO, .slice q2 Ar AY, .slice q3 Ag Ao], .int .i64 0]) (bD (f:=oV) (l:=bF q1 Ah AO q2 Ar AY q3 Ag Ao) (t:=7) rfl _ bN (w.heap.size+2) 0 rfl EC.at) rfl ?_;exact ⟨_,rfl,HE.out _ _ (hu3.avoid sV.out ro3 vZ),hB3.grown vZ hB3.size (fun k e=>by injection e with e;omega)⟩
end
section
open Go Go.RowKit Mem
structure nC (w X:World) (tb N:Nat) (cell:List Nat) (nx:List (List Nat)) (ac:List Bool) (pn:Option Addr) (cn:Nat) (pa:Option Addr) (ca:Nat) (us:List OC):Prop where
 fB:Below tb w X
 out:Row oV X tb 79 [on,on,on]
 tab:Row oV X (tb+1) 166 (bf ⟨cell,256,[],[]⟩ ⟨.slice pn us.length cn,rfl⟩ ⟨.slice pa ac.length ca,rfl⟩)
 next:Mem.Own oV X (tb+2) 92 (.slice pn us.length cn) us
 rows:F2 (aea X (tb+2) N) us nx
 acc:Mem.Own Value.bool X (tb+2) 4 (.slice pa ac.length ca) ac
 sz:tb+2≤X.heap.size
 nN:N≤X.heap.size
section
variable {w X X':World} {tb N:Nat} {cell:List Nat} {nx:List (List Nat)} {ac:List Bool} {pn:Option Addr} {cn:Nat} {pa:Option Addr} {ca:Nat} {us:List OC}
theorem nC.grown (h:nC w X tb N cell nx ac pn cn pa ca us) {row:Option Nat} (hg:X.grownBy X' row) (hr:∀g,row=some g→N≤g∧tb+2≤g∧(Value.slice pn us.length cn).ownBlock≠some g∧(Value.slice pa ac.length ca).ownBlock≠some g):nC w X' tb N cell nx ac pn cn pa ca us:=by
 have hz:=h.sz;refine ⟨h.fB.grown hg (by omega) (fun k e=>by have:=(hr k e).2.1;omega),h.out.grown hg (fun e=>by have:=(hr _ e.symm).2.1;omega),h.tab.grown hg (fun e=>by have:=(hr _ e.symm).2.1;omega),h.next.kept hg (fun g hg' e=>(hr g e).2.2.1 hg'),?_,h.acc.kept hg (fun g hg' e=>(hr g e).2.2.2 hg'),aJ h.sz hg.size,aJ h.nN hg.size⟩;refine bg ?_ h.rows;rintro u r ⟨g,e1,e2,e3,e4,e6⟩;exact ⟨g,e1,e2.grown hg (fun e=>by have:=(hr g e.symm).1;omega),e3,e4,e6⟩
theorem nC.under (h:nC w X tb N cell nx ac pn cn pa ca us) (hb:Below X.heap.size X X'):nC w X' tb N cell nx ac pn cn pa ca us:=h.grown (Mem.aY hb none) (fun _ e=>by cases e)
theorem nC.alloc (h:nC w X tb N cell nx ac pn cn pa ca us) (o:Obj):nC w (X.alloc o) tb N cell nx ac pn cn pa ca us:=h.grown (Us X o none) (fun _ e=>by cases e)
theorem nC.mono (h:nC w X tb N cell nx ac pn cn pa ca us) {M:Nat} (hM:N≤M) (hX:M≤X.heap.size):nC w X tb M cell nx ac pn cn pa ca us:=
 ⟨h.fB,h.out,h.tab,h.next,bg (fun _ _ ⟨g,e1,e2,e3,e4,e6⟩=>⟨g,e1,e2,e3,by omega,e6⟩) h.rows,h.acc,h.sz,hX⟩
theorem nC.row (h:nC w X tb N cell nx ac pn cn pa ca us) (g i:Nat) {l:List Nat} (hr:Row nV X g 3 l) (v:Value) (hg:N≤g) (hB:tb+2≤g):nC w (X.setCell ⟨g,i,none⟩ v) tb N cell nx ac pn cn pa ca us:=
 h.grown (aB X g i v) (fun k e=>by
  injection e with e
  subst e
  exact ⟨hg,hB,fun e=>lu h.next hr (by decide) _ e rfl,fun e=>lu h.acc hr (by decide) _ e rfl⟩)
theorem nC.BA (h:nC w X tb N cell nx ac pn cn pa ca us) {g:Nat} {r:List Nat} (hr:Row nV X g 3 r) (hgB:tb+2≤g) (hr2:r.length≤256) (hcl:cell.length=256) {o:Obj} {p:Option Addr} {c:Nat} {u:OC} (hu:u.1= .slice (some ⟨g,0,none⟩) r.length r.length)
  (hO:Mem.Own oV X' (tb+2) 92 (.slice p (us++[u]).length c) (us++[u])) (hG:(X.alloc o).grownBy X' (Value.slice pn us.length cn).ownBlock) {M:Nat} (hM:N≤M) (hgM:g<M) (ZU:M≤X'.heap.size):
  nC w (X'.setCell ⟨tb+1,257,none⟩ (.slice p (us++[u]).length c)) tb M cell (nx++[r]) ac p c pa ca (us++[u]):=by
 have h':=h.alloc o;have hz:=h'.sz;have hlt:=fun g e=>(h.next.lt g e).1;have hne:∀b,b<tb+2→some b≠(Value.slice pn us.length cn).ownBlock:=fun b hb e=>by have:=hlt b e.symm;omega
 have hgs:=aB X' (tb+1) 257 (.slice p (us++[u]).length c);have qg:∀b,b≠tb+1→some b≠some (tb+1):=fun b hb e=>hb (by injection e);have d1:=(h'.tab.grown hG (hne _ (by omega))).set 257 ⟨.slice p (us++[u]).length c,rfl⟩
 have e1:(bf ⟨cell,256,[],[]⟩ ⟨.slice pn us.length cn,rfl⟩ ⟨.slice pa ac.length ca,rfl⟩).set 257 ⟨.slice p (us++[u]).length c,rfl⟩=bf ⟨cell,256,[],[]⟩ ⟨.slice p (us++[u]).length c,rfl⟩ ⟨.slice pa ac.length ca,rfl⟩:=by
  unfold bf;rw [GA _ _ (by rw [fe];show cell.length≤257;omega),fe];show _++List.set _ (257 - cell.length) _=_;rw [hcl];rfl
 rw [e1] at d1;have JC:tb+2≤X'.heap.size:=aJ h'.sz hG.size;refine ⟨(h'.fB.grown hG (by omega) (fun k e=>by have:=hlt k e;omega)).grown hgs (by omega) (fun k e=>by injection e with e;omega),(h'.out.grown hG (hne _ (by omega))).grown hgs (qg _ (by omega)),d1,hO.kept hgs (fun k hk e=>qg k (by have:=(hO.lt k hk).1;omega) e.symm),?_,(h'.acc.kept hG (fun k hk e=>iL h.next h.acc (by decide) k e hk)).kept hgs (fun k hk e=>qg k (by have:=(h.acc.lt k hk).1;omega) e.symm),aJ JC hgs.size,aJ ZU hgs.size⟩;refine Bz (bg ?_ h.rows) ⟨g,hu,((hr.alloc o).grown hG (fun e=>lu h.next hr (by decide) _ e.symm rfl)).grown hgs (qg _ (by omega)),hgB,hgM,hr2⟩;rintro u' r' ⟨k,e1,e2,e3,e4,e6⟩;exact ⟨k,e1,((e2.alloc o).grown hG (fun e=>lu h.next e2 (by decide) _ e.symm rfl)).grown hgs (qg _ (by omega)),e3,by omega,e6⟩
theorem nC.Cn (h:nC w X tb N cell nx ac pn cn pa ca us) (hcl:cell.length=256) {o:Obj} {b:Bool} {p:Option Addr} {c:Nat}
  (hO:Mem.Own Value.bool X' (tb+2) 4 (.slice p (ac++[b]).length c) (ac++[b])) (hG:(X.alloc o).grownBy X' (Value.slice pa ac.length ca).ownBlock):
  nC w (X'.setCell ⟨tb+1,258,none⟩ (.slice p (ac++[b]).length c)) tb N cell nx (ac++[b]) pn cn p c us:=by
 have h':=h.alloc o;have hz:=h'.sz;have hlt:=fun g e=>(h.acc.lt g e).1;have hne:∀b,b<tb+2→some b≠(Value.slice pa ac.length ca).ownBlock:=fun b hb e=>by have:=hlt b e.symm;omega
 have hgs:=aB X' (tb+1) 258 (.slice p (ac++[b]).length c);have qg:∀b,b≠tb+1→some b≠some (tb+1):=fun b hb e=>hb (by injection e);have d1:=(h'.tab.grown hG (hne _ (by omega))).set 258 ⟨.slice p (ac++[b]).length c,rfl⟩
 have e1:(bf ⟨cell,256,[],[]⟩ ⟨.slice pn us.length cn,rfl⟩ ⟨.slice pa ac.length ca,rfl⟩).set 258 ⟨.slice p (ac++[b]).length c,rfl⟩=bf ⟨cell,256,[],[]⟩ ⟨.slice pn us.length cn,rfl⟩ ⟨.slice p (ac++[b]).length c,rfl⟩:=by
  unfold bf;rw [GA _ _ (by rw [fe];show cell.length≤258;omega),fe];show _++List.set _ (258 - cell.length) _=_;rw [hcl];rfl
 rw [e1] at d1;have JC:tb+2≤X'.heap.size:=aJ h'.sz hG.size;refine ⟨(h'.fB.grown hG (by omega) (fun k e=>by have:=hlt k e;omega)).grown hgs (by omega) (fun k e=>by injection e with e;omega),(h'.out.grown hG (hne _ (by omega))).grown hgs (qg _ (by omega)),d1,(h'.next.kept hG (fun k hk e=>iL h.acc h.next (by decide) k e hk)).kept hgs (fun k hk e=>qg k (by have:=(h.next.lt k hk).1;omega) e.symm),?_,hO.kept hgs (fun k hk e=>qg k (by have:=(hO.lt k hk).1;omega) e.symm),aJ JC hgs.size,aJ (aJ h'.nN hG.size) hgs.size⟩;refine bg ?_ h.rows;rintro u' r' ⟨k,e1,e2,e3,e4,e6⟩;exact ⟨k,e1,((e2.alloc o).grown hG (fun e=>lu h.acc e2 (by decide) _ e.symm rfl)).grown hgs (qg _ (by omega)),e3,e4,e6⟩
end
end
section
open Go Go.RowKit Mem
def uD (k:Nat):List Nat:=List.range k++List.replicate (256 - k) 0
theorem xQ (k:Nat) (h:k≤256):(uD k).length=256:=by unfold uD;simp;omega
theorem aat (k:Nat) (h:k<256):(uD k).set k k=uD (k+1):=by
 unfold uD;rw [show 256 - k=(256 - (k+1))+1 by omega,qcD,GA _ _ (by simp),List.length_range,D7,xY,KR,zD];rfl
abbrev ones:List Nat:=List.replicate 256 1
def Gv (k:Nat):List (List Nat):=List.replicate k ones
def vK (k:Nat):List Bool:=(List.range k).map (·==0)
theorem XO (k:Nat):Gv k++[ones]=Gv (k+1):=by unfold Gv;rw [qcw]
theorem XP (k:Nat):vK k++[k==0]=vK (k+1):=by unfold vK;rw [KR,wV];rfl
theorem yQ:eF.Ok:=by
 refine ⟨by simp [eF],by simp [eF],?_,by simp [eF],by simp [eF],by simp [eF],?_,?_⟩
 ·intro x hx;exact LD.1 hx
 ·intro r hr;simp only [eF,nX,Dj,or_false,or_self] at hr;subst hr;simp [eF]
 ·intro r hr t ht;simp only [eF,nX,Dj,or_false,or_self] at hr;subst hr;rw [(Wu.1 ht).2];simp [eF]
theorem acQ (w:World) (p:Option Addr) (c:Nat):
  Calls Tryz.prog 135 #[.slice p 0 c] w fun e w'=>∃v,e= .returned v∧fF w' v (.ok eF.canon)∧Below w.heap.size w w':=by
 have b0:Below w.heap.size w (w.alloc (.cells #[.slice none 0 0, .slice none 0 0, .slice none 0 0] 79)):=(ak _ _).alloc (af _) _;have r0:Row oV (w.alloc (.cells #[.slice none 0 0, .slice none 0 0, .slice none 0 0] 79)) w.heap.size 79 [on,on,on]:=Row.new _ _ rfl;have s0:(w.alloc (.cells #[.slice none 0 0, .slice none 0 0, .slice none 0 0] 79)).heap.size=w.heap.size+1:=bO _ _;go_enter Tryz.func135,Tryz.ntmps135;go_upto_region 4 with (fail);generalize (w.alloc (.cells #[.slice none 0 0, .slice none 0 0, .slice none 0 0] 79))=W at b0 r0 s0 ⊢;have hbu:(Tryz.zeroCells166.setIfInBounds 256 (.int .i64 256))=((bf ⟨uD 0,256,[],[]⟩ on on).map oV).toArray:=by kernel_rfl
 obtain ⟨C0,qU⟩:∃C,Hid (C=((bf ⟨uD 0,256,[],[]⟩ on on).map oV).toArray):=⟨_,Lib.hid rfl⟩
 rw [← qU.out] at hbu;have hC9:C0.size=259:=by rw [qU.out,Ck,fe];exact aR _ _ (xQ 0 (by omega))
 have rz:Row oV (W.alloc (.cells fP 166)) (w.heap.size+1) 166 (bf ⟨List.replicate 256 0,0,[],[]⟩ on on):=by
  have h:=Row.new (f:=oV) W (t:=166) (l:=bf ⟨List.replicate 256 0,0,[],[]⟩ on on) (.cells fP 166) rfl
  rwa [s0] at h
 have b1:=b0.alloc (by rw [s0];omega) (.cells fP 166);have r1:=r0.alloc (.cells fP 166);have s1:(W.alloc (.cells fP 166)).heap.size=w.heap.size+2:=by rw [bO,s0]
 have xC:bR Tryz.prog 166 (bf ⟨uD 0,256,[],[]⟩ on on).length:=by rw [aR _ _ (xQ 0 (by omega))];exact iR
 have Qa:(bf ⟨uD 0,256,[],[]⟩ on on).length=(bf ⟨List.replicate 256 0,0,[],[]⟩ on on).length:=by rw [aR _ _ (xQ 0 (by omega)),aR _ _ (by simp)]
 go_upto_region 5 with (first
  | ((with_reducible refine gy (t:=166) fP uq ?_ ?_ (w.heap.size+1) ?_ ?_);rfl;rfl;exact s0)
  | ((with_reducible refine aF (f:=oV) (l:=bf ⟨List.replicate 256 0,0,[],[]⟩ on on) (l':=bf ⟨uD 0,256,[],[]⟩ on on) (t:=166) (C:=C0) xC (.tmp 5) (.tmp 15) ?_ ?_ (w.heap.size+1) ?_ qU.out ?_ rz Qa bC ?_);rfl;rfl;rfl;(first | rfl | exact congrArg Value.agg hbu);(intro W6 hs6 di fO)))
 have hW0:nC w W6 w.heap.size (w.heap.size+2) (uD 0) [] [] none 0 none 0 []:=
  ⟨b1.grown di (by rw [s1];omega) (fun k e=>by injection e with e;omega),r1.grown di (by simp),hs6,Own.nil _ _ _, .nil,Own.nil _ _ _,by rw [fO,s1];omega,by rw [fO,s1];omega⟩
 clear b0 r0 s0 hbu hC9 rz b1 r1 s1 xC Qa hs6 di fO;obtain ⟨tb,dx⟩:∃tb,Hid (w.heap.size=tb):=⟨_,Lib.hid rfl⟩
 rw [dx.out] at hW0 ⊢;generalize (Value.agg C0)=vC0;go_wp2_with fail
 go_loopw [16] (fun s16 wr=>∃k:Nat,k≤256∧s16= .int .i64 k∧nC w wr tb (tb+2) (uD k) [] [] none 0 none 0 []) (fun s16 _=>256 - (intOf s16).toNat)
 case atStart=>exact ⟨0,by omega,rfl,hW0⟩
 case round=>
  clear hW0;obtain ⟨k,hk,rfl,hW⟩:=hrel;by_cases hlt:k<256
  ·have hq:(k:Int)<256:=by omega
   have ck:wr.cell? ⟨tb+1,k,none⟩=some (.int .i64 ((uD k).getD k 0:Nat)):=by
    rw [hW.tab.cell?,y9 _ _ (by rw [show (TB.mk (uD k) 256 [] []).cell=uD k from rfl,xQ k hk];exact hlt)];rfl
   have fk:=hW.tab.frozen k;have hg:=aB wr (tb+1) k (.int .i64 (k:Int))
   have ht:Row oV (wr.setCell ⟨tb+1,k,none⟩ (.int .i64 (k:Int))) (tb+1) 166 (bf ⟨uD (k+1),256,[],[]⟩ on on):=by
    have h:=hW.tab.set k (oi (k:Int));rw [RN _ _ _ _ _ (by rw [show (TB.mk (uD k) 256 [] []).cell=uD k from rfl,xQ k hk];exact hlt)] at h;rw [← aat k hlt];exact h
   have hz:=hW.sz
   have hW1:nC w (wr.setCell ⟨tb+1,k,none⟩ (.int .i64 (k:Int))) tb (tb+2) (uD (k+1)) [] [] none 0 none 0 []:=
    ⟨hW.fB.grown hg (by omega) (fun j e=>by injection e with e;omega),hW.out.grown hg (fun e=>by injection e with e;omega),ht,Own.nil _ _ _, .nil,Own.nil _ _ _,aJ hz hg.size,aJ hz hg.size⟩
   clear hW hg ht hz;go_wp2_with fail
   go_roundw
   case rel=>exact ⟨k+1,by omega,by go_num,hW1⟩
   case measure=>simp [intOf];omega
  ·obtain rfl:k=256:=by omega
   have adA:uD 256=List.range 256:=by unfold uD;simp
   rw [adA] at hW;have Ai:Hid ((List.range 256).length=256):=Lib.hid (by simp);obtain ⟨ids,aeb⟩:∃l,Hid (List.range 256=l):=⟨_,Lib.hid rfl⟩
   rw [aeb.out] at hW Ai;clear adA;go_wp2_with fail
   go_loopw [26] (fun Si wq=>∃(k:Nat) (pn:Option Addr) (cn:Nat) (pa:Option Addr) (ca:Nat) (us:List OC) (N:Nat),k≤2∧Si= .int .i64 k∧nC w wq tb N ids (Gv k) (vK k) pn cn pa ca us) (fun Si _=>2 - (intOf Si).toNat)
   case atStart=>exact ⟨0,none,0,none,0,[],tb+2,by omega,rfl,hW⟩
   case round=>
    clear hW;obtain ⟨k,pn,cn,pa,ca,us,N,hk,rfl,hW⟩:=hrel;by_cases hlt:k<2
    ·have hq:(k:Int)<2:=by omega
     obtain ⟨MB,lg⟩:∃C,Hid (C=((List.replicate 256 0).map nV).toArray):=⟨_,Lib.hid rfl⟩
     have hmk:∀w:World,(Instr.makeSlice 92 (.int .i64 256) (.int .i64 256)).run Tryz.prog w= .ok (.slice (some ⟨w.heap.size,0,none⟩) 256 256) (w.alloc (.cells MB 3)):=fun w=>by rw [lg.out];exact uh w 256 (by omega)
     have Cm:Row nV (wr.alloc (.cells MB 3)) wr.heap.size 3 (List.replicate 256 0):=Row.new _ _ (by rw [lg.out]);have hX1:=(hW.alloc (.cells MB 3)).mono (M:=wr.heap.size) hW.nN (by rw [bO];omega);have hgB:=hW.sz;have hg1:wr.heap.size+1≤(wr.alloc (.cells MB 3)).heap.size:=by rw [bO];exact af _
     go_upto_region 15 with (fail);obtain ⟨g1,Hg1⟩:∃g,Hid (wr.heap.size=g):=⟨_,Lib.hid rfl⟩
     rw [Hg1.out] at Cm hX1 hgB hg1 ⊢;generalize (wr.alloc (.cells MB 3))=W1 at Cm hX1 hg1 ⊢;clear hW hmk lg;go_wp2_with fail
     go_loopw [32] (fun ZC wq=>∃b:Nat,b≤256∧ZC= .int .i64 b∧nC w wq tb g1 ids (Gv k) (vK k) pn cn pa ca us∧Row nV wq g1 3 (List.replicate b 1++List.replicate (256 - b) 0)∧g1+1≤wq.heap.size) (fun ZC _=>256 - (intOf ZC).toNat)
     case atStart=>exact ⟨0,by omega,rfl,hX1,by simpa using Cm,hg1⟩
     case round=>
      clear Cm hX1 hg1;clear W1;obtain ⟨b,hb,rfl,hX,hR,hg1⟩:=hrel;by_cases hbl:b<256
      ·have hbq:(b:Int)<256:=by omega
       have hrl:b<(List.replicate b 1++List.replicate (256 - b) 0).length:=by simp;omega
       have cb:=eU hR b hrl;have fb:=hR.frozen b;have hR2:=hR.set b 1;rw [zh (by simp) hbl,show List.replicate b 1++[1]=List.replicate (b+1) 1 from (qcw ..).symm] at hR2;have hX2:=hX.row g1 b hR (.int .i64 1) (af _) hgB;have hg2:=aJ hg1 (aB wr g1 b (.int .i64 1)).size;have EX:Row nV (wr.setCell ⟨g1,b,none⟩ (.int .i64 1)) g1 3 (List.replicate (b+1) 1++List.replicate (256 - (b+1)) 0):=hR2;clear hX hR hg1 hrl hR2;go_wp2_with fail
       go_roundw
       case rel=>exact ⟨b+1,by omega,by go_num,hX2,EX,hg2⟩
       case measure=>simp [intOf];omega
      ·obtain rfl:b=256:=by omega
       rw [D7,qcl,D8] at hR;have rQ:us.length=k:=by rw [lV hX.rows];simp [Gv]
       have hal:(vK k).length=k:=by simp [vK]
       have c1B:wr.cell? ⟨tb+1,257,none⟩=some (.slice pn us.length cn):=by rw [hX.tab.cell?,show 257=256+1 from rfl,j6 _ _ Ai.out];rfl
       have f1B:=hX.tab.frozen 257;have tX:=hX.sz;have hO3:=hX.next;obtain ⟨y,Hy⟩:∃y:OC,Hid (y.1= .slice (some ⟨g1,0,none⟩) 256 256):=⟨⟨.slice (some ⟨g1,0,none⟩) 256 256,rfl⟩,Lib.hid rfl⟩
       have Hyo:Hid (Value.slice (some ⟨g1,0,none⟩) 256 256=oV y):=Lib.hid Hy.out.symm;obtain ⟨uS,Cg⟩:∃l,Hid (us++[y]=l):=⟨_,Lib.hid rfl⟩
       have Ue:=Lib.hid (hX.alloc (.cells #[.slice (some ⟨g1,0,none⟩) 256 256] 92)).tab;have SL:Hid (some (tb+1)≠(Value.slice pn us.length cn).ownBlock):=Lib.hid (fun e=>by have:=(hO3.lt _ e.symm).1;omega);have HX:=Lib.hid hX;have HR:=Lib.hid hR;have hL1:Hid ((us.length+1) * 24≤140737488355328):=Lib.hid (by omega);have hL2:Hid (us.length+1≤140737488355328):=Lib.hid (by omega);have Gx:=Lib.hid rQ;have XM:=Lib.hid hal;have hkn:¬(k:Int)<0:=by omega
       clear hX hR rQ hal;go_upto_region 22 with (at_builtin;(with_reducible refine fq S9 (.tmp 53) (.tmp 55) ?_ ?_ bC ?_ hO3 y _ ?_ _ ?_ hL1.out hL2.out tX uS Cg.out ?_);rfl;rfl;rfl;(exact Hyo.out);rfl;(intro p8 c8 W8 mP jf gW);(have J9:=Ue.out.grown gW SL.out);(have Rk:W8.cell? ⟨tb+1,257,none⟩=some (.slice pn us.length cn):=by rw [J9.cell?,show 257=256+1 from rfl,j6 _ _ Ai.out];rfl);(have RU:=J9.frozen 257))
       have nH:nC w (W8.setCell ⟨tb+1,257,none⟩ (.slice p8 uS.length c8)) tb W8.heap.size ids (Gv (k+1)) (vK k) p8 c8 pa ca uS:=by
        rw [← Cg.out] at mP ⊢;have hgs:=gW.size;rw [bO] at hgs;have hNN:=HX.out.nN;rw [← XO];exact HX.out.BA HR.out hgB (by simp) Ai.out (by simpa using Hy.out) mP gW (by omega) (by omega) (af _)
       generalize (W8.setCell ⟨tb+1,257,none⟩ (.slice p8 uS.length c8))=mV at nH ⊢;obtain ⟨N2,o9⟩:∃N2,Hid (W8.heap.size=N2):=⟨_,Lib.hid rfl⟩
       rw [o9.out] at nH;clear J9 Rk RU mP gW jf hO3 c1B f1B tX;obtain ⟨z,Hz⟩:∃z,Hid ((k==0)=z):=⟨_,Lib.hid rfl⟩
       have hz:((k:Int)==0)=z:=by rw [← Hz.out,Dr];simp
       have c2B:mV.cell? ⟨tb+1,258,none⟩=some (.slice pa (vK k).length ca):=by rw [nH.tab.cell?,show 258=256+2 from rfl,j6 _ _ Ai.out];rfl
       have BF:=nH.acc;have tX:tb+2≤mV.heap.size:=nH.sz;obtain ⟨DJ,yx⟩:∃l,Hid (vK k++[z]=l):=⟨_,Lib.hid rfl⟩
       have HAS:Hid (DJ=vK (k+1)):=Lib.hid (by rw [← yx.out,← Hz.out,XP]);obtain ⟨al,agx⟩:∃l,Hid ((vK k).length=l):=⟨_,Lib.hid rfl⟩
       have agW:al=k:=by rw [← agx.out];exact XM.out
       have HA1:Hid (((vK k).length+1) * 1≤140737488355328):=Lib.hid (by rw [XM.out];omega);have HA2:Hid ((vK k).length+1≤140737488355328):=Lib.hid (by rw [XM.out];omega);have Vm:=Lib.hid (nH.alloc (.cells #[.bool z] 4)).tab;have HAB:Hid (some (tb+1)≠(Value.slice pa (vK k).length ca).ownBlock):=Lib.hid (fun e=>by have:=(BF.lt _ e.symm).1;omega);have ZN:=Lib.hid nH;clear nH Ue SL HX;go_wp2_with (at_builtin;(with_reducible refine fq NF (.tmp 59) (.tmp 63) ?_ ?_ NQ ?_ BF z _ ?_ _ ?_ HA1.out HA2.out tX DJ yx.out ?_);rfl;rfl;rfl;rfl;rfl;(intro p9 c9 W9 MV GM dw);(have DZ:=Vm.out.grown dw HAB.out);(have aaG:W9.cell? ⟨tb+1,258,none⟩=some (.slice pa (vK k).length ca):=by rw [DZ.cell?,show 258=256+2 from rfl,j6 _ _ Ai.out];rfl);(have Z0:=DZ.frozen 258))
       have aag:nC w (W9.setCell ⟨tb+1,258,none⟩ (.slice p9 DJ.length c9)) tb N2 ids (Gv (k+1)) (vK (k+1)) p8 c8 p9 c9 uS:=by
        rw [← HAS.out];rw [← yx.out] at MV ⊢;exact ZN.out.Cn Ai.out MV dw
       clear DZ aaG Z0 MV GM dw c2B BF
       go_roundw
       case rel=>exact ⟨_,_,_,_,⟨k+1,by omega,by go_num,p8,c8,p9,c9,uS,N2,aag⟩,rfl,rfl,rfl,rfl⟩
       case measure=>simp [intOf];omega
    ·obtain rfl:k=2:=by omega
     have hq:¬((2:Nat):Int)<2:=by omega
     have hut:us.length=2:=by rw [lV hW.rows];simp [Gv]
     have htab:=hW.tab;have hout:=hW.out;have hWT:eF=⟨ids,256,Gv 2,vK 2⟩:=by rw [← aeb.out];rfl
     obtain ⟨L3,xR⟩:∃l:List OC,Hid (l=bf ⟨ids,256,[],[]⟩ ⟨.slice pn us.length cn,rfl⟩ ⟨.slice pa (vK 2).length ca,rfl⟩):=⟨_,Lib.hid rfl⟩
     rw [← xR.out] at htab;obtain ⟨C3,PN⟩:∃C,Hid (C=(L3.map oV).toArray):=⟨_,Lib.hid rfl⟩
     have hL3:L3.length=259:=by rw [xR.out];exact aR _ _ Ai.out
     have hA3:bR Tryz.prog 166 L3.length:=by rw [hL3];exact iR
     have HTA:Hid (kz wr C3 eF):=Lib.hid (by
      rw [hWT]
      refine ⟨⟨.slice pn us.length cn,rfl⟩,⟨.slice pa (vK 2).length ca,rfl⟩,by rw [PN.out,xR.out];rfl,?_,hW.acc.rd,Ai.out⟩
      rcases hW.next.rd with ⟨p0,e0,e1⟩ | ⟨b1,o1,c1,e1,e2,e3,e4⟩
      ·rw [e1] at hut;cases hut
      ·have hlw:(Gv 2).length=us.length:=by rw [hut];rfl
       refine .inr ⟨b1,o1,c1,by rw [hlw];exact e1,by rw [hlw];exact e2,fun k hk=> ?_,e4⟩
       have Cj:k<us.length:=by rw [← hlw];exact hk
       obtain ⟨g,u1,u2,u3,_,u6⟩:=G9 hW.rows k Cj hk
       refine ⟨us[k].1,?_,?_⟩
       ·have h:=e3 k Cj
        rw [bK Cj] at h
        exact h
       ·rw [u1]
        exact (l9 (base:=0) u2 (LC _) (by unfold maxLen;show (Gv 2)[k].length≤_;omega)).rd)
     have hbel:Below tb w wr:=hW.fB;have hsz:=hW.sz;have hol:=hout.lt;clear hW hut hWT;go_wp2_with ((with_reducible refine zL htab.at hA3 PN.out ?_));refine (Hg wr C3 eF HTA.out yQ).mono ?_;rintro e Wc ⟨v,rfl,hv,jH⟩;obtain ⟨D,HD⟩:∃D,Hid (eF.canon=D):=⟨_,Lib.hid rfl⟩
     have GV:Hid D.Ok:=Lib.hid (by rw [← HD.out];exact yQ.canon.1);rw [HD.out] at hv;obtain ⟨q1,j1,q2,j2,q3,j3,rfl⟩:=hv.parts;have HU:=Lib.hid hv;obtain ⟨m1,Hm1⟩:∃n,Hid (D.cls.length=n):=⟨_,Lib.hid rfl⟩
     obtain ⟨m2,Hm2⟩:∃n,Hid (D.nx.length=n):=⟨_,Lib.hid rfl⟩
     obtain ⟨m3,Hm3⟩:∃n,Hid (D.ac.length=n):=⟨_,Lib.hid rfl⟩
     rw [Hm1.out,Hm2.out,Hm3.out] at HU ⊢;have hRk:=hout.below jH hol;have Ju:Below tb w Wc:=hbel.trans (jH.mono (by omega));clear hv jH hout htab;go_wp2_with ((with_reducible refine zS (l':=bF q1 m1 j1 q2 m2 j2 q3 m3 j3) hRk bN ?_);(intro W9 iH dw sN));have dO:Below tb w W9:=Ju.grown dw (by have:=hRk.lt;omega) (fun k e=>by injection e with e;omega);refine bodyPost_ret (v:= .tuple #[.agg #[.slice q1 m1 j1, .slice q2 m2 j2, .slice q3 m3 j3], .int .i64 0]) (bD (f:=oV) (l:=bF q1 m1 j1 q2 m2 j2 q3 m3 j3) (t:=3) rfl _ bN tb 0 rfl iH.at) rfl ?_;refine ⟨_,rfl,?_,by rw [dx.out];exact dO⟩;rw [HD.out];exact ⟨_,rfl,HU.out.avoid GV.out hRk dw⟩
def Ow (D:DF) (low:Int) (P:DF):Prop:=∀(w:World) (vp vd:Value),dm w vp eF.canon→dm w vd D→gV w→1<w.heap.size→
  Calls Tryz.prog 191 #[vp,vd, .int .i64 low] w fun e w'=>∃v,e= .returned v∧fF w' v (.ok P)∧Below w.heap.size w w'
theorem UB (D:DF):Ow D 0 eF.canon:=fun w vp vd hp hd _ _=>af4 w vp vd _ D hp hd yQ.canon.1
theorem acg (D R:DF) (hD:D.V) (hW:eF.canon.V) (hR:eF.canon.cat D= .ok R) (hO:R.Ok):Ow D 1 R:=fun w vp vd hp hd hT hl=>afV w vp vd _ D R hp hd hW hD hR hO hT hl
def RpS (w W:World) (l:List OC):Prop:=Below w.heap.size w W∧Row oV W w.heap.size 79 l∧Row oV W (w.heap.size+1) 79 [on,on,on]∧w.heap.size+2≤W.heap.size
theorem RpS.up {w W X:World} {l:List OC} (h:RpS w W l) (hB:Below W.heap.size W X):RpS w X l:=
 ⟨h.1.trans (hB.mono h.1.size),h.2.1.below hB h.2.1.lt,h.2.2.1.below hB h.2.2.1.lt,aJ h.2.2.2 hB.size⟩
theorem afG (w:World) (vd:Value) (D P S R:DF) (low:Int) (hd:dm w vd D) (hD:D.V) (RP:Ow D low P) (hP:P.V) (hS:D.star= .ok S) (hSV:S.V) (hR:P.cat S= .ok R) (EH:R.Ok) (hlow:((-1:Int)==low)=false) (uj:gV w) (htl:1<w.heap.size):
  Calls Tryz.prog 141 #[vd, .int .i64 low, .int .i64 (-1)] w fun e w'=>∃v,e= .returned v∧fF w' v (.ok R)∧Below w.heap.size w w':=by
 have HDV:=Lib.hid hD;have HPW:=Lib.hid RP;have HPV:=Lib.hid hP;have HS:=Lib.hid hS;have HSV:=Lib.hid hSV;have HR:=Lib.hid hR;have sV:=Lib.hid EH;have HT:=Lib.hid uj;have iy:=Lib.hid htl;have HE:Hid (∀(w':World) u,dm w' u R→fF w' (.tuple #[u, .int .i64 0]) (.ok R)):=Lib.hid (fun w' u h=>⟨u,rfl,h⟩);obtain ⟨Wd,HWd⟩:∃X,Hid (eF.canon=X):=⟨_,Lib.hid rfl⟩
 clear hD RP hP hS hSV hR EH uj htl;obtain ⟨d1,dk1,d2,dk2,d3,dk3,rfl⟩:=hd.parts;obtain ⟨eT,Oy⟩:∃n,Hid (D.cls.length=n):=⟨_,Lib.hid rfl⟩
 obtain ⟨eP,O8⟩:∃n,Hid (D.nx.length=n):=⟨_,Lib.hid rfl⟩
 obtain ⟨eO,OV⟩:∃n,Hid (D.ac.length=n):=⟨_,Lib.hid rfl⟩
 rw [Oy.out,O8.out,OV.out] at hd ⊢;have HD:=Lib.hid hd;clear hd
 obtain ⟨W,hW,hS⟩:∃W,((w.alloc (.cells #[.slice d1 eT dk1, .slice d2 eP dk2, .slice d3 eO dk3] 79)).alloc (.cells #[.slice none 0 0, .slice none 0 0, .slice none 0 0] 79))=W∧RpS w W (bF d1 eT dk1 d2 eP dk2 d3 eO dk3):=by
  have s1:(w.alloc (.cells #[.slice d1 eT dk1, .slice d2 eP dk2, .slice d3 eO dk3] 79)).heap.size=w.heap.size+1:=bO _ _;have r1:Row oV (w.alloc (.cells #[.slice d1 eT dk1, .slice d2 eP dk2, .slice d3 eO dk3] 79)) w.heap.size 79 (bF d1 eT dk1 d2 eP dk2 d3 eO dk3):=Row.new _ _ rfl;have r2:=Row.new (f:=oV) (w.alloc (.cells #[.slice d1 eT dk1, .slice d2 eP dk2, .slice d3 eO dk3] 79)) (t:=79) (l:=[on,on,on]) (.cells #[.slice none 0 0, .slice none 0 0, .slice none 0 0] 79) rfl;rw [s1] at r2;exact ⟨_,rfl,((ak _ _).alloc (af _) _).alloc (by rw [s1];omega) _,r1.alloc _,r2,by rw [bO,s1];omega⟩
 go_enter Tryz.func141,Tryz.ntmps141;go_upto_region 1 with (fail);clear hW;go_wp2_with fail;refine (acQ W none 0).mono ?_;rw [HWd.out];rintro e W1 ⟨v,rfl,⟨u,rfl,ha⟩,hB1⟩;replace hS:=hS.up hB1;clear hB1;obtain ⟨a1,Yj,a2,Xu,a3,Xx,rfl⟩:=ha.parts;obtain ⟨Yl,Ha1⟩:∃n,Hid (Wd.cls.length=n):=⟨_,Lib.hid rfl⟩
 obtain ⟨VZ,Ha2⟩:∃n,Hid (Wd.nx.length=n):=⟨_,Lib.hid rfl⟩
 obtain ⟨XT,Ha3⟩:∃n,Hid (Wd.ac.length=n):=⟨_,Lib.hid rfl⟩
 rw [Ha1.out,Ha2.out,Ha3.out] at ha ⊢;go_upto_region 4 with (fail);have hal:Below W1.heap.size W1 (W1.alloc (.cells #[.slice a1 Yl Yj, .slice a2 VZ Xu, .slice a3 XT Xx] 79)):=(ak _ _).alloc (af _) _;have ra:Row oV (W1.alloc (.cells #[.slice a1 Yl Yj, .slice a2 VZ Xu, .slice a3 XT Xx] 79)) W1.heap.size 79 (bF a1 Yl Yj a2 VZ Xu a3 XT Xx):=Row.new _ _ rfl;replace hS:=hS.up hal;replace ha:=ha.below hal;clear hal;generalize (W1.alloc (.cells #[.slice a1 Yl Yj, .slice a2 VZ Xu, .slice a3 XT Xx] 79))=W2 at hS ra ha ⊢;generalize W1.heap.size=ba at ra ⊢;have hrd:=hS.2.1;have Hpw:=Lib.hid (HPW.out W2 _ _ (HWd.out▸ha) (HD.out.below hS.1) (HT.out.below hS.1 iy.out) (bJ iy.out hS.1.size))
 go_wp2_with (first
  | ((with_reducible refine aN (f:=oV) (l:=bF a1 Yl Yj a2 VZ Xu a3 XT Xx) (C:= #[.slice a1 Yl Yj, .slice a2 VZ Xu, .slice a3 XT Xx]) bN (.tmp 8) ?_ ?_ ba 0 ?_ ra.at ?_ ?_);rfl;rfl;rfl;rfl)
  | ((with_reducible refine aN (f:=oV) (l:=bF d1 eT dk1 d2 eP dk2 d3 eO dk3) (C:= #[.slice d1 eT dk1, .slice d2 eP dk2, .slice d3 eO dk3]) bN (.tmp 3) ?_ ?_ w.heap.size 0 ?_ hrd.at ?_ ?_);rfl;rfl;rfl;rfl))
 refine Hpw.out.mono ?_;rintro e W3 ⟨v,rfl,⟨u,rfl,hq⟩,hB3⟩;replace hS:=hS.up hB3;clear hB3 ra hrd Hpw ha;obtain ⟨q1,AO,q2,AY,q3,Ao,rfl⟩:=hq.parts;obtain ⟨Ah,Hq1⟩:∃n,Hid (P.cls.length=n):=⟨_,Lib.hid rfl⟩
 obtain ⟨Ar,Hq2⟩:∃n,Hid (P.nx.length=n):=⟨_,Lib.hid rfl⟩
 obtain ⟨Ag,Hq3⟩:∃n,Hid (P.ac.length=n):=⟨_,Lib.hid rfl⟩
 rw [Hq1.out,Hq2.out,Hq3.out] at hq ⊢;go_upto_region 5 with (fail);have hal:Below W3.heap.size W3 (W3.alloc (.cells #[.slice q1 Ah AO, .slice q2 Ar AY, .slice q3 Ag Ao] 79)):=(ak _ _).alloc (af _) _;have rq:Row oV (W3.alloc (.cells #[.slice q1 Ah AO, .slice q2 Ar AY, .slice q3 Ag Ao] 79)) W3.heap.size 79 (bF q1 Ah AO q2 Ar AY q3 Ag Ao):=Row.new _ _ rfl;replace hS:=hS.up hal;replace hq:=hq.below hal;clear hal;generalize (W3.alloc (.cells #[.slice q1 Ah AO, .slice q2 Ar AY, .slice q3 Ag Ao] 79))=W4 at hS rq hq ⊢;generalize W3.heap.size=bq at rq ⊢;have hrd:=hS.2.1;have Xz:=Lib.hid (aeG W4 _ D (HD.out.below hS.1) HDV.out (HT.out.below hS.1 iy.out) (bJ iy.out hS.1.size));rw [HS.out] at Xz;go_wp2_with ((with_reducible refine aN (f:=oV) (l:=bF d1 eT dk1 d2 eP dk2 d3 eO dk3) (C:= #[.slice d1 eT dk1, .slice d2 eP dk2, .slice d3 eO dk3]) bN (.tmp 3) ?_ ?_ w.heap.size 0 ?_ hrd.at ?_ ?_);rfl;rfl;rfl;rfl);refine Xz.out.mono ?_;rintro e W5 ⟨v,rfl,⟨u,rfl,hs⟩,vR⟩;replace hS:=hS.up vR;replace hq:=hq.below vR;replace rq:=rq.below vR rq.lt;clear vR hrd Xz;obtain ⟨s1,XI,s2,YE,s3,VY,rfl⟩:=hs.parts;obtain ⟨XB,Hs1⟩:∃n,Hid (S.cls.length=n):=⟨_,Lib.hid rfl⟩
 obtain ⟨VA,Hs2⟩:∃n,Hid (S.nx.length=n):=⟨_,Lib.hid rfl⟩
 obtain ⟨XY,Hs3⟩:∃n,Hid (S.ac.length=n):=⟨_,Lib.hid rfl⟩
 rw [Hs1.out,Hs2.out,Hs3.out] at hs ⊢;go_upto_region 9 with (fail);have hal:Below W5.heap.size W5 (W5.alloc (.cells #[.slice s1 XB XI, .slice s2 VA YE, .slice s3 XY VY] 79)):=(ak _ _).alloc (af _) _;have rs:Row oV (W5.alloc (.cells #[.slice s1 XB XI, .slice s2 VA YE, .slice s3 XY VY] 79)) W5.heap.size 79 (bF s1 XB XI s2 VA YE s3 XY VY):=Row.new _ _ rfl;replace hS:=hS.up hal;replace hq:=hq.below hal;replace hs:=hs.below hal;replace rq:=rq.below hal rq.lt;clear hal;generalize (W5.alloc (.cells #[.slice s1 XB XI, .slice s2 VA YE, .slice s3 XY VY] 79))=W6 at hS rq hq rs hs ⊢;generalize W5.heap.size=bs at rs ⊢;have ME:=Lib.hid (RO W6 _ _ P S hq hs HPV.out HSV.out (HT.out.below hS.1 iy.out) (bJ iy.out hS.1.size));rw [HR.out] at ME
 go_wp2_with (first
  | ((with_reducible refine aN (f:=oV) (l:=bF q1 Ah AO q2 Ar AY q3 Ag Ao) (C:= #[.slice q1 Ah AO, .slice q2 Ar AY, .slice q3 Ag Ao]) bN (.tmp 10) ?_ ?_ bq 0 ?_ rq.at ?_ ?_);rfl;rfl;rfl;rfl)
  | ((with_reducible refine aN (f:=oV) (l:=bF s1 XB XI s2 VA YE s3 XY VY) (C:= #[.slice s1 XB XI, .slice s2 VA YE, .slice s3 XY VY]) bN (.tmp 11) ?_ ?_ bs 0 ?_ rs.at ?_ ?_);rfl;rfl;rfl;rfl))
 refine ME.out.mono ?_;rintro e W7 ⟨v,rfl,⟨u,rfl,hr⟩,fD⟩;replace hS:=hS.up fD;clear fD rq rs hq hs ME;obtain ⟨r1,iN,r2,iM,r3,iK,rfl⟩:=hr.parts;obtain ⟨ig,Nh⟩:∃n,Hid (R.cls.length=n):=⟨_,Lib.hid rfl⟩
 obtain ⟨gu,Od⟩:∃n,Hid (R.nx.length=n):=⟨_,Lib.hid rfl⟩
 obtain ⟨gX,OD⟩:∃n,Hid (R.ac.length=n):=⟨_,Lib.hid rfl⟩
 rw [Nh.out,Od.out,OD.out] at hr ⊢;have xE:=hS.2.2.1;go_wp2_with ((with_reducible refine aF (f:=oV) (l:=[on,on,on]) (l':=bF r1 ig iN r2 gu iM r3 gX iK) (t:=79) (C:= #[.slice r1 ig iN, .slice r2 gu iM, .slice r3 gX iK]) bN (.tmp 6) (.tmp 52) ?_ ?_ (w.heap.size+1) ?_ ?_ ?_ xE ?_ bC ?_);rfl;rfl;rfl;rfl;rfl;rfl;(intro WZ EC vZ Xh));refine bodyPost_ret (v:= .tuple #[.agg #[.slice r1 ig iN, .slice r2 gu iM, .slice r3 gX iK], .int .i64 0]) (bD (f:=oV) (l:=bF r1 ig iN r2 gu iM r3 gX iK) (t:=7) rfl _ bN (w.heap.size+1) 0 rfl EC.at) rfl ?_;exact ⟨_,rfl,HE.out _ _ (hr.avoid sV.out xE vZ),hS.1.grown vZ hS.1.size (fun k e=>by injection e with e;omega)⟩
end
end Go.Proofs.YtncnfncglacheaaGreatDoor
