/- language.repeat without a bound. -/
import Derived.Test.YtncnfncglacheaaGreatDoorMHeldD
import Derived.Test.YtncnfncglacheaaGreatDoorMKeyS
import Derived.Test.YtncnfncglacheaaGreatDoorMCanP
import Derived.Test.YtncnfncglacheaaGreatDoorMExec
import Derived.RegionTactic
import Derived.Test.YtncnfncglacheaaGreatDoorMRefine
import Derived.Test.YtncnfncglacheaaGreatDoorMFree
namespace Go.Proofs.YtncnfncglacheaaGreatDoor
open Go Go.RowKit Mem
set_option maxRecDepth 100000
def cellA (l:List Nat):Array Value:=(l.map nV).toArray
theorem agg256:AggT Tryz.prog 152 256:=⟨fun _=>by kernel_rfl,fun _=>by kernel_rfl⟩
def z256:Array Value:=cellA (List.replicate 256 0)
theorem zero256 (w:World):(zeroValue 152).run Tryz.prog w= .ok (.agg z256) w:=by kernel_rfl
theorem row256 {w:World} {N:Nat} (h:w.heap.size=N):Row nV (w.alloc (.cells z256 152)) N 152 (List.replicate 256 0):=by
 subst h;exact Row.new _ _ rfl
structure JnW (w wr:World) (tb:Nat) (Ta Tb:TB) (va1 va2 vb1 vb2:OC) (p:Option Addr) (c:Nat) (st:JS):Prop where
 ta:TbR wr tb Ta va1 va2
 tc:TbR wr (tb+1) Tb vb1 vb2
 out:Row nV wr (tb+2) 152 (List.replicate 256 0)
 cell:Row nV wr (tb+3) 152 st.cell
 map:MapI okP encP Tryz.prog 206 3 wr (tb+4) st.ks
 bs:Mem.Own nV wr (tb+5) 3 (.slice p st.bs.length c) st.bs
 bel:Below tb w wr
 sz:tb+5≤wr.heap.size
section
variable {w wr w':World} {tb:Nat} {Ta Tb:TB} {va1 va2 vb1 vb2:OC} {p:Option Addr} {c:Nat} {st:JS}
theorem JnW.grown (h:JnW w wr tb Ta Tb va1 va2 vb1 vb2 p c st) {row:Option Nat} (hg:wr.grownBy w' row) (hr:∀g,row=some g→tb+5≤g∧(Value.slice p st.bs.length c).ownBlock≠some g):JnW w w' tb Ta Tb va1 va2 vb1 vb2 p c st:=by
 have hz:=h.sz
 exact ⟨⟨h.ta.row.grown hg (fun e=>by have:=(hr _ e.symm).1;omega),h.ta.cl⟩,⟨h.tc.row.grown hg (fun e=>by have:=(hr _ e.symm).1;omega),h.tc.cl⟩,h.out.grown hg (fun e=>by have:=(hr _ e.symm).1;omega),h.cell.grown hg (fun e=>by have:=(hr _ e.symm).1;omega),h.map.kept hg (fun e=>by have:=(hr _ e.symm).1;omega),h.bs.kept hg (fun g hg' e=>(hr g e).2 hg'),h.bel.grown hg (by omega) (fun k e=>by have:=(hr k e).1;omega),Nat.le_trans h.sz hg.size⟩
theorem JnW.under (h:JnW w wr tb Ta Tb va1 va2 vb1 vb2 p c st) (hb:Below wr.heap.size wr w'):JnW w w' tb Ta Tb va1 va2 vb1 vb2 p c st:=h.grown (Mem.grown_of_below hb none) (fun _ e=>by cases e)
theorem JnW.setCell (h:JnW w wr tb Ta Tb va1 va2 vb1 vb2 p c st) (x q:Nat):JnW w (wr.setCell ⟨tb+3,x,none⟩ (nV q)) tb Ta Tb va1 va2 vb1 vb2 p c {st with cell:=st.cell.set x q}:=by
 have hg:=grown_cell wr (tb+3) x (nV q)
 have hz:=h.sz
 exact ⟨⟨h.ta.row.grown hg (fun e=>by injection e with e;omega),h.ta.cl⟩,⟨h.tc.row.grown hg (fun e=>by injection e with e;omega),h.tc.cl⟩,h.out.grown hg (fun e=>by injection e with e;omega),h.cell.set x q,h.map.kept hg (fun e=>by injection e with e;omega),h.bs.kept hg (fun g hg' e=>by have:=(h.bs.lt g hg').1;injection e with e;omega),h.bel.grown hg (by omega) (fun k e=>by injection e with e;omega),Nat.le_trans h.sz hg.size⟩
end
set_option maxHeartbeats 16000000 in
theorem tJoint (w:World) (Ca Cb:Array Value) (Ta Tb:TB) (hA:TbAt w Ca Ta) (hB:TbAt w Cb Tb) (ha:∀x∈Ta.cell,x<65536) (hb:∀x∈Tb.cell,x<65536):
  Calls Tryz.prog 180 #[.agg Ca, .agg Cb] w fun e w'=>∃p c,e= .returned (.tuple #[.agg (cellA (jnt Ta Tb).cell), .slice p (jnt Ta Tb).bs.length c])∧Mem.Own nV w' w.heap.size 3 (.slice p (jnt Ta Tb).bs.length c) (jnt Ta Tb).bs∧Below w.heap.size w w':=by
 obtain ⟨va1,va2,hCa,_,_,h3a⟩:=hA
 obtain ⟨vb1,vb2,hCb,_,_,h3b⟩:=hB
 have HA:=Lib.hid ha
 have HB:=Lib.hid hb
 clear ha hb
 have r0:TbR (w.alloc (.cells Ca 166)) w.heap.size Ta va1 va2:=⟨Row.new _ _ (by rw [hCa]),h3a⟩
 have r1:Row oV ((w.alloc (.cells Ca 166)).alloc (.cells Cb 166)) (w.heap.size+1) 166 (tbL Tb vb1 vb2):=by
  have h:=Row.new (f:=oV) (w.alloc (.cells Ca 166)) (t:=166) (l:=tbL Tb vb1 vb2) (.cells Cb 166) (by rw [hCb])
  rw [World.size_alloc] at h
  exact h
 have s1:((w.alloc (.cells Ca 166)).alloc (.cells Cb 166)).heap.size=w.heap.size+2:=by simp
 have b1:Below w.heap.size w ((w.alloc (.cells Ca 166)).alloc (.cells Cb 166)):=((Below.refl _ _).alloc (Nat.le_refl _) _).alloc (by simp) _
 have r0':=r0.row.alloc (.cells Cb 166)
 clear hCa hCb r0
 have H1:=Lib.hid s1
 clear s1
 go_enter Tryz.func180,Tryz.ntmps180
 go_upto_region 1 with ((with_reducible refine alloc_big (t:=152) z256 zero256 ?_ ?_ (w.heap.size+2) ?_ ?_);rfl;rfl;exact H1.out)
 generalize ((w.alloc (.cells Ca 166)).alloc (.cells Cb 166))=W at r0' r1 b1 H1 ⊢
 have ro:=row256 H1.out
 have ra:=r0'.alloc (.cells z256 152)
 have rb:=r1.alloc (.cells z256 152)
 have bb:=b1.alloc (by have:=H1.out;omega) (.cells z256 152)
 have H2:Hid ((W.alloc (.cells z256 152)).heap.size=w.heap.size+3):=Lib.hid (by rw [World.size_alloc,H1.out])
 generalize (W.alloc (.cells z256 152))=W2 at ro ra rb bb H2 ⊢
 clear r0' r1 b1 H1
 clear W
 have hmm:= @run_makeMap Tryz.prog
 go_upto_region 4 with ((with_reducible refine alloc_big (t:=152) z256 zero256 ?_ ?_ (w.heap.size+3) ?_ ?_);rfl;rfl;exact H2.out)
 have rc:=row256 H2.out
 have ro':=ro.alloc (.cells z256 152)
 have ra':=ra.alloc (.cells z256 152)
 have rb':=rb.alloc (.cells z256 152)
 have bb':=bb.alloc (by have:=H2.out;omega) (.cells z256 152)
 have H3:Hid ((W2.alloc (.cells z256 152)).heap.size=w.heap.size+4):=Lib.hid (by rw [World.size_alloc,H2.out])
 generalize (W2.alloc (.cells z256 152))=W3 at rc ro' ra' rb' bb' H3 ⊢
 rw [show W2.heap.size+1=w.heap.size+4 by rw [H2.out]]
 clear ro ra rb bb H2
 clear W2
 have rm:MapI okP encP Tryz.prog 206 3 (W3.alloc (.map #[] 0)) (w.heap.size+4) []:=by
  have h:MapI okP encP Tryz.prog 206 3 (W3.alloc (.map #[] 0)) W3.heap.size []:=MapI.made W3
  rwa [H3.out] at h
 obtain ⟨tb,Htb⟩:∃tb,Hid (w.heap.size=tb):=⟨_,Lib.hid rfl⟩
 have hJ:JnW w (W3.alloc (.map #[] 0)) w.heap.size Ta Tb va1 va2 vb1 vb2 none 0 (jointK Ta.cell Tb.cell 0):=
  ⟨⟨ra'.alloc _,h3a⟩,⟨rb'.alloc _,h3b⟩,ro'.alloc _,rc.alloc _,rm,Own.nil _ _ _,bb'.alloc (by have:=H3.out;omega) _,by rw [World.size_alloc,H3.out];omega⟩
 generalize (W3.alloc (.map #[] 0))=W4 at hJ ⊢
 rw [Htb.out] at hJ ⊢
 clear rc ro' ra' rb' bb' rm hmm H3
 clear W3
 go_wp2_with fail
 go_loopw [7,14] (fun s7 s14 wr=>∃(k:Nat) (st:JS) (p:Option Addr) (c:Nat),k≤256∧s14= .int .i64 k∧Hid (jointK Ta.cell Tb.cell k=st)∧s7= .slice p st.bs.length c∧JnW w wr tb Ta Tb va1 va2 vb1 vb2 p c st) (fun _ s14 _=>256 - (intOf s14).toNat)
 case atStart=>exact ⟨0,_,none,0,by omega,rfl,Lib.hid rfl,rfl,hJ⟩
 case round=>
  clear hJ
  obtain ⟨k,st,p,c,hk,rfl,HS,rfl,hJ⟩:=hrel
  have hok:=jointK_ok Ta.cell Tb.cell k hk
  rw [HS.out] at hok
  have HOK:=Lib.hid hok
  clear hok
  by_cases hlt:k<256
  ·have hq:(k:Int)<256:=by omega
   have c1:=hJ.ta.c k hlt
   have c2:=hJ.tc.c k hlt
   have ha:Ta.cell.getD k 0<65536:=HA.out _ (getD_mem _ _ _ (by rw [hJ.ta.cl];exact hlt))
   have hb:Tb.cell.getD k 0<65536:=HB.out _ (getD_mem _ _ _ (by rw [hJ.tc.cl];exact hlt))
   have HS1:Hid (jointK Ta.cell Tb.cell (k+1)=jstep Ta.cell Tb.cell st k):=Lib.hid (by rw [jointK,HS.out])
   have HST:Hid (jstep Ta.cell Tb.cell st k=if (Ta.cell.getD k 0,Tb.cell.getD k 0)∈st.ks then {st with cell:=st.cell.set k (st.ks.idxOf (Ta.cell.getD k 0,Tb.cell.getD k 0))} else ⟨st.ks++[(Ta.cell.getD k 0,Tb.cell.getD k 0)],st.bs++[k],st.cell.set k st.ks.length⟩):=Lib.hid rfl
   obtain ⟨x,Hx⟩:∃x,Hid (Ta.cell.getD k 0=x):=⟨_,Lib.hid rfl⟩
   obtain ⟨y,Hy⟩:∃x,Hid (Tb.cell.getD k 0=x):=⟨_,Lib.hid rfl⟩
   have hJa:=hJ.under ((Below.refl _ _).alloc (Nat.le_refl _) (.cells #[.int .i64 0, .int .i64 0] 206))
   have d1:=hJa.ta.c k hlt
   have d2:=hJa.tc.c k hlt
   rw [Hx.out] at c1 d1 ha HST
   rw [Hy.out] at c2 d2 hb HST
   have HJ:=Lib.hid hJ
   have hrs:=hJ.sz
   obtain ⟨kb,Hkb⟩:∃n,Hid (wr.heap.size=n):=⟨_,Lib.hid rfl⟩
   go_upto_region 7 with (fail)
   go_wp2_with fail
   go_region
   have hBk:Below wr.heap.size wr (wr.alloc (.cells #[.int .i64 (x:Int), .int .i64 (y:Int)] 206)).drew:=((Below.refl _ _).alloc (Nat.le_refl _) _).drew
   have hRk:Row oV (wr.alloc (.cells #[.int .i64 (x:Int), .int .i64 (y:Int)] 206)).drew wr.heap.size 206 [oi (x:Int),oi (y:Int)]:=(Row.new wr (.cells #[.int .i64 (x:Int), .int .i64 (y:Int)] 206) rfl).drew
   have hJ1:=HJ.out.under hBk
   generalize (wr.alloc (.cells #[.int .i64 (x:Int), .int .i64 (y:Int)] 206)).drew=W1 at hBk hRk hJ1 ⊢
   rw [Hkb.out] at hBk hRk hrs ⊢
   clear hJa d1 d2 c1 c2 hJ
   have e0:W1.cell? ⟨kb,0,none⟩=some (.int .i64 (x:Int)):=by rw [hRk.cell?];rfl
   have e1:W1.cell? ⟨kb,1,none⟩=some (.int .i64 (y:Int)):=by rw [hRk.cell?];rfl
   have HOP:Hid (okP (x,y)):=Lib.hid ⟨ha,hb⟩
   have HKey:Hid (Go.keyOf Tryz.prog 206 (.agg #[.int .i64 (x:Int), .int .i64 (y:Int)])=some (encP (x,y))):=Lib.hid (keyOfP (x,y) ⟨ha,hb⟩)
   have hz:∀w:World,(zeroValue 3).run Tryz.prog w= .ok (.int .i64 0) w:=fun w=>by kernel_rfl
   have HBL:=Lib.hid HOK.out.bl
   have hle:=HOK.out.le
   have hcl:k<st.cell.length:=by rw [HOK.out.cl];exact hlt
   clear HS ha hb
   have hmp:=hJ1.map
   by_cases hm:(x,y)∈st.ks
   ·rw [if_pos hm] at HST
    obtain ⟨q,Hq⟩:∃q,Hid (@List.idxOf _ instBEqOfDecidableEq (x,y) st.ks=q):=⟨_,Lib.hid rfl⟩
    rw [← idxOf_gen,Hq.out] at HST
    have HM:=Lib.hid hm
    clear hm
    have c3:=rowN_at hJ1.cell k hcl
    have f3:=hJ1.cell.frozen k
    have hJ2:=hJ1.setCell k q
    have HJ2:Hid (JnW w (W1.setCell ⟨tb+3,k,none⟩ (.int .i64 (q:Int))) tb Ta Tb va1 va2 vb1 vb2 p c (jstep Ta.cell Tb.cell st k)∧(jstep Ta.cell Tb.cell st k).bs.length=st.bs.length):=Lib.hid (by rw [HST.out];exact ⟨hJ2,rfl⟩)
    clear hJ1 hJ2 hBk hRk
    go_wp2_with (at_lookup;(with_reducible refine map_look_yes hmp ?_ (.tmp 27) (.tmp 28) ?_ kP Tryz.underlying207 Tryz.underlying3 (hz _) ?_ (x,y) HOP.out HM.out q Hq.out _ ?_ HKey.out ?_);rfl;rfl;rfl;rfl)
    go_roundw
    case rel=>exact ⟨k+1,_,p,c,by omega,by go_num,HS1,by rw [HJ2.out.2],HJ2.out.1⟩
    case measure=>simp [intOf];omega
   ·rw [if_neg hm] at HST
    have HM:=Lib.hid hm
    clear hm
    have hkl:st.ks.length<1000000000:=by rw [← HBL.out];omega
    have hlen:(st.bs.length+1) * 8≤140737488355328:=by omega
    have hlen2:st.bs.length+1≤140737488355328:=by omega
    have Hlen:=Lib.hid hlen
    have Hlen2:=Lib.hid hlen2
    have hW1s:kb≤W1.heap.size:=by rw [← Hkb.out];exact hBk.size
    clear hBk hle hlen hlen2
    go_wp2_with (first
     | (at_lookup;(with_reducible refine map_look_no hmp ?_ (.tmp 27) (.tmp 28) ?_ kP Tryz.underlying207 Tryz.underlying3 (hz _) ?_ (x,y) HOP.out HM.out _ ?_ HKey.out ?_);rfl;rfl;rfl;rfl)
     | (at_mapUpdate;(with_reducible refine map_put hmp ?_ (.tmp 36) (.tmp 37) (.tmp 38) ?_ kP Tryz.underlying207 Tryz.underlying3 encP_inj encP_key ?_ (x,y) HOP.out HM.out hkl _ ?_ HKey.out ?_ ?_);rfl;rfl;rfl;rfl;(exact congrArg (fun n:Nat=>Value.int .i64 (n:Int)) HBL.out);(intro W7 hMp7 hG7);(have hO7:=hJ1.bs.kept hG7 (fun g hg e=>by have:=(hJ1.bs.lt g hg).1;injection e with e;omega));(have hs7:tb+5≤W7.heap.size:=Nat.le_trans hJ1.sz hG7.size);(have hcell7:=hJ1.cell.grown hG7 (fun e=>by injection e with e;omega)))
     | (at_builtin;(with_reducible refine append_one eltNI (.tmp 39) (.tmp 41) ?_ ?_ nV_one ?_ hO7 k _ ?_ _ ?_ Hlen.out Hlen2.out hs7 (st.bs++[k]) ?_ ?_);rfl;rfl;rfl;rfl;rfl;rfl;(intro p8 c8 W8 hO8 hB8 hG8);(have hcell8:=(hcell7.alloc (.cells #[.int .i64 (k:Int)] 3)).grown hG8 (fun e=>by have:=(hO7.lt _ e.symm).1;omega));(have c3:=rowN_at hcell8 k hcl);(have f3:=hcell8.frozen k)))
    have hne:∀b,b<tb+5→some b≠(Value.slice p st.bs.length c).ownBlock:=fun b hb e=>by have:=(hO7.lt b e.symm).1;omega
    have hz7:=hJ1.sz
    have HJ2:Hid (JnW w (W8.setCell ⟨tb+3,k,none⟩ (.int .i64 (st.bs.length:Int))) tb Ta Tb va1 va2 vb1 vb2 p8 c8 (jstep Ta.cell Tb.cell st k)∧(jstep Ta.cell Tb.cell st k).bs.length=st.bs.length+1):=Lib.hid (by
     rw [HST.out]
     refine ⟨?_,by simp⟩
     have g1:W7.grownBy W8 (Value.slice p st.bs.length c).ownBlock:=⟨hG8.os,hG8.tape,hG8.output,Nat.le_trans (by rw [World.size_alloc];omega) hG8.size,fun b hb hn=>(hG8.block b (by rw [World.size_alloc];omega) hn).trans (Below.heap_alloc _ _ _ hb)⟩
     have h8:JnW w W8 tb Ta Tb va1 va2 vb1 vb2 p8 c8 ⟨st.ks++[(x,y)],st.bs++[k],st.cell⟩:=by
      refine ⟨⟨(hJ1.ta.row.grown hG7 (fun e=>by injection e with e;omega)).grown g1 (hne _ (by omega)),hJ1.ta.cl⟩,⟨(hJ1.tc.row.grown hG7 (fun e=>by injection e with e;omega)).grown g1 (hne _ (by omega)),hJ1.tc.cl⟩,(hJ1.out.grown hG7 (fun e=>by injection e with e;omega)).grown g1 (hne _ (by omega)),hcell8,hMp7.kept g1 (hne _ (by omega)),hO8,(hJ1.bel.grown hG7 (by omega) (fun b e=>by injection e with e;omega)).grown g1 (by omega) (fun b e=>by have:=(hO7.lt b e).1;omega),Nat.le_trans hs7 g1.size⟩
     have h9:=h8.setCell k st.ks.length
     rw [HBL.out]
     exact h9)
    clear hJ1 hO7 hO8 hB8 hG8 hMp7 hG7 hcell7 hcell8 hs7 hne
    go_roundw
    case rel=>exact ⟨k+1,_,p8,c8,by omega,by go_num,HS1,by rw [HJ2.out.2],HJ2.out.1⟩
    case measure=>simp [intOf];omega
  ·obtain rfl:k=256:=by omega
   have HE:Hid (jnt Ta Tb=st):=Lib.hid HS.out
   have hout:=hJ.out
   have hcell:=hJ.cell
   have HJ:=Lib.hid hJ
   obtain ⟨cl,Hcl⟩:∃l,Hid (st.cell=l):=⟨_,Lib.hid rfl⟩
   have hcl:cl.length=256:=by rw [← Hcl.out];exact HOK.out.cl
   have hA2:AggT Tryz.prog 152 cl.length:=by rw [hcl];exact agg256
   obtain ⟨CA,HCA⟩:∃C,Hid (C=(cl.map nV).toArray):=⟨_,Lib.hid rfl⟩
   obtain ⟨zl,Hzl⟩:∃l,Hid (List.replicate 256 0=l):=⟨_,Lib.hid rfl⟩
   have hzl:cl.length=zl.length:=by rw [hcl,← Hzl.out];simp
   rw [Hcl.out] at hcell
   rw [Hzl.out] at hout
   have Hhcl:=Lib.hid hcl
   clear hJ hcl
   go_wp2_with (first
    | ((with_reducible refine zL hcell.at hA2 HCA.out ?_))
    | ((with_reducible refine store_agg (f:=nV) (l:=zl) (l':=cl) (t:=152) (C:=CA) hA2 (.tmp 4) (.tmp 47) ?_ ?_ (tb+2) ?_ HCA.out ?_ hout hzl nV_one ?_);rfl;rfl;rfl;rfl;(intro W9 hs9 hG9 hz9)))
   have hBf:Below tb w W9:=HJ.out.bel.grown hG9 (by have:=HJ.out.sz;omega) (fun k e=>by injection e with e;omega)
   refine bodyPost_ret (v:= .tuple #[.agg (cl.map nV).toArray, .slice p st.bs.length c]) (results_agg2 (f:=nV) (l:=cl) (t:=5) rfl _ hA2 (tb+2) 0 rfl hs9.at) rfl ?_
   refine ⟨p,c,by rw [HE.out,Hcl.out];rfl,?_,by rw [Htb.out];exact hBf⟩
   rw [HE.out,Htb.out]
   exact (HJ.out.bs.kept hG9 (fun g hg e=>by have:=(HJ.out.bs.lt g hg).1;injection e with e;omega)).mono (by omega)
end Go.Proofs.YtncnfncglacheaaGreatDoor
namespace Go.Proofs.YtncnfncglacheaaGreatDoor
open Go Go.RowKit Mem
set_option maxRecDepth 100000
theorem eltKS:EltK Tryz.prog 341 286 3 24:=EltK.mk' (z:= .agg #[.int .i64 0, .int .i64 0, .int .u64 0]) Tryz.underlying341 (by kernel_rfl) rfl
theorem aggS:AggT Tryz.prog 286 3:=⟨fun _=>by kernel_rfl,fun _=>by kernel_rfl⟩
section
variable {α:Type} [DecidableEq α] {ok:α→Prop} {enc:α→Lit} {P:Program} {K E T:TypeId} {w:World} {b:Nat} {ks:List α}
variable {ops:Array Oper} {rest:List Oper} {o:Oper} {a:Act} {Q:Exit→Act→World→Prop}
theorem map_ins (h:MapI ok enc P K E w b ks) (hg:o.guard=none) (m x v:Operand) (hop:o.op=Op.insert T m x v) (KK:Maps.Keyed P K) (ht:P.underlying T=some (.map K E)) (he:P.underlying E=some (.int .i64))
  (hinj:∀a b,ok a→ok b→enc a=enc b→a=b) (hkl:∀a,WideAt.IsKeyLit (enc a)) (hm:a.eval m= .map (some b)) (y:α) (hy:ok y) (hn:y∉ks) (hl:ks.length<1000000000) (key:Value) (hx:a.eval x=key) (hkey:keyOf P K key=some (enc y)) (hv:a.eval v= .int .i64 (ks.length:Nat))
  (hk:∀w',MapI ok enc P K E w' b (ks++[y])→w.grownBy w' (some b)→wpList P ops Q rest (a.put o.dst undef) w'):wpList P ops Q (o::rest) a w:=by
 obtain ⟨D,h1,h2⟩:=h
 refine wpList_plain hg fun K' hK'=> ?_
 obtain ⟨w',hrun,r1,r2⟩:=h1.update KK ht (by unfold maxLen;omega) hkey (plainElem_int he (WalkArith.wf_i64 (n:=(ks.length:Nat)) (by omega)))
 unfold Oper.wp
 simp [execOp,hop,hm,hx,hv,hrun,Result.andThen]
 exact hK' _ _ (hk w' ⟨_,by rw [List.length_append];exact r1,h2.put hinj hkl hy hn⟩ r2)
end
theorem ownK_one {α:Type} {K:Nat} {enc:α→List OC} (w:World) {N base:Nat} {e:TypeId} (hN:w.heap.size=N) (hb:base≤N) (hk:∀x,(enc x).length=K) (x:α) {C:Array Value} (hC:C=((enc x).map oV).toArray):OwnK K enc (w.alloc (.cells C e)) base e (.slice (some ⟨N,0,none⟩) 1 1) [x]:=by
 subst hN hC
 exact ⟨by simp [hk], .inr ⟨w.heap.size,1,_,rfl,hb,heap_alloc_new w _,Nat.le_refl _,by unfold maxLen;show 1≤_;omega,by simp [hk],by simp only [List.flatMap_cons,List.flatMap_nil,List.append_nil,Nat.one_mul,List.length_singleton];rw [List.take_of_length_le (by rw [List.length_map,hk];exact Nat.le_refl _)]⟩⟩
def RowX (X:World) (B N:Nat) (u:OC) (r:List Nat):Prop:=∃g,u.1= .slice (some ⟨g,0,none⟩) r.length r.length∧Row nV X g 3 r∧B≤g∧g<N∧r.length≤256
structure ExW (w X:World) (tb N:Nat) (cell:List Nat) (nb:Nat) (ks:List Sx) (nx:List (List Nat)) (ac:List Bool) (po:Option Addr) (co:Nat) (pn:Option Addr) (cn:Nat) (pa:Option Addr) (ca:Nat) (us:List OC):Prop where
 bel:Below tb w X
 out:Row oV X (tb+2) 166 (tbL ⟨List.replicate 256 0,0,[],[]⟩ on on)
 tab:Row oV X (tb+3) 166 (tbL ⟨cell,nb,[],[]⟩ ⟨.slice pn us.length cn,rfl⟩ ⟨.slice pa ac.length ca,rfl⟩)
 map:MapI okSx encS Tryz.prog 286 3 X (tb+4) ks
 lst:OwnK 3 sxL X (tb+5) 286 (.slice po ks.length co) ks
 next:Mem.Own oV X (tb+5) 92 (.slice pn us.length cn) us
 rows:F2 (RowX X (tb+5) N) us nx
 acc:Mem.Own Value.bool X (tb+5) 4 (.slice pa ac.length ca) ac
 sz:tb+5≤X.heap.size
 nN:N≤X.heap.size
section
variable {w X X':World} {tb N nb:Nat} {cell:List Nat} {ks:List Sx} {nx:List (List Nat)} {ac:List Bool} {po:Option Addr} {co:Nat} {pn:Option Addr} {cn:Nat} {pa:Option Addr} {ca:Nat} {us:List OC}
theorem ExW.grown (h:ExW w X tb N cell nb ks nx ac po co pn cn pa ca us) {row:Option Nat} (hg:X.grownBy X' row) (hr:∀g,row=some g→N≤g∧tb+5≤g∧(Value.slice po ks.length co).ownBlock≠some g∧(Value.slice pn us.length cn).ownBlock≠some g∧(Value.slice pa ac.length ca).ownBlock≠some g):ExW w X' tb N cell nb ks nx ac po co pn cn pa ca us:=by
 have hz:=h.sz
 refine ⟨h.bel.grown hg (by omega) (fun k e=>by have:=(hr k e).2.1;omega),h.out.grown hg (fun e=>by have:=(hr _ e.symm).2.1;omega),h.tab.grown hg (fun e=>by have:=(hr _ e.symm).2.1;omega),h.map.kept hg (fun e=>by have:=(hr _ e.symm).2.1;omega),h.lst.grown hg (fun g hg' e=>(hr g e.symm).2.2.1 hg'),h.next.kept hg (fun g hg' e=>(hr g e).2.2.2.1 hg'),?_,h.acc.kept hg (fun g hg' e=>(hr g e).2.2.2.2 hg'),Nat.le_trans h.sz hg.size,Nat.le_trans h.nN hg.size⟩
 refine forall2_imp ?_ h.rows
 rintro u r ⟨g,e1,e2,e3,e4,e6⟩
 exact ⟨g,e1,e2.grown hg (fun e=>by have:=(hr g e.symm).1;omega),e3,e4,e6⟩
theorem ExW.under (h:ExW w X tb N cell nb ks nx ac po co pn cn pa ca us) (hb:Below X.heap.size X X'):ExW w X' tb N cell nb ks nx ac po co pn cn pa ca us:=h.grown (Mem.grown_of_below hb none) (fun _ e=>by cases e)
theorem ExW.alloc (h:ExW w X tb N cell nb ks nx ac po co pn cn pa ca us) (o:Obj):ExW w (X.alloc o) tb N cell nb ks nx ac po co pn cn pa ca us:=h.grown (World.grownBy_alloc X o none) (fun _ e=>by cases e)
theorem ExW.mono (h:ExW w X tb N cell nb ks nx ac po co pn cn pa ca us) {M:Nat} (hM:N≤M) (hX:M≤X.heap.size):ExW w X tb M cell nb ks nx ac po co pn cn pa ca us:=
 ⟨h.bel,h.out,h.tab,h.map,h.lst,h.next,forall2_imp (fun _ _ ⟨g,e1,e2,e3,e4,e6⟩=>⟨g,e1,e2,e3,by omega,e6⟩) h.rows,h.acc,h.sz,hX⟩
theorem ExW.row (h:ExW w X tb N cell nb ks nx ac po co pn cn pa ca us) (g i:Nat) {l:List Nat} (hr:Row nV X g 3 l) (v:Value) (hg:N≤g) (hB:tb+5≤g):ExW w (X.setCell ⟨g,i,none⟩ v) tb N cell nb ks nx ac po co pn cn pa ca us:=
 h.grown (grown_cell X g i v) (fun k e=>by
  injection e with e
  subst e
  exact ⟨hg,hB,fun e=>h.lst.row hr (by decide) _ e rfl,fun e=>own_row h.next hr (by decide) _ e rfl,fun e=>own_row h.acc hr (by decide) _ e rfl⟩)
theorem ExW.add (h:ExW w X tb N cell nb ks nx ac po co pn cn pa ca us) {W7:World} {t:Sx} (hm:MapI okSx encS Tryz.prog 286 3 W7 (tb+4) (ks++[t])) (hg7:X.grownBy W7 (some (tb+4))) {o:Obj} {p:Option Addr} {c:Nat}
  (hO:OwnK 3 sxL X' (tb+5) 286 (.slice p (ks++[t]).length c) (ks++[t])) (hG:(W7.alloc o).grownBy X' (Value.slice po ks.length co).ownBlock):ExW w X' tb N cell nb (ks++[t]) nx ac p c pn cn pa ca us:=by
 have hz:=h.sz
 have hlt:=fun g e=>(h.lst.lt g e).1
 have hrow:∀k l,Row nV X k 3 l→some k≠(Value.slice po ks.length co).ownBlock:=fun k l hk e=>h.lst.row hk (by decide) _ e.symm rfl
 have g8:W7.grownBy X' (Value.slice po ks.length co).ownBlock:=⟨hG.os,hG.tape,hG.output,Nat.le_trans (by rw [World.size_alloc];omega) hG.size,fun b hb hn=>(hG.block b (by rw [World.size_alloc];omega) hn).trans (Below.heap_alloc _ _ _ hb)⟩
 have s8:X.heap.size≤X'.heap.size:=Nat.le_trans hg7.size g8.size
 have hne:∀b,b<tb+5→some b≠(Value.slice po ks.length co).ownBlock:=fun b hb e=>by have:=hlt b e.symm;omega
 refine ⟨(h.bel.grown hg7 (by omega) (fun k e=>by injection e with e;omega)).grown g8 (by have:=hg7.size;omega) (fun k e=>by have:=hlt k e;omega),(h.out.grown hg7 (fun e=>by injection e with e;omega)).grown g8 (hne _ (by omega)),(h.tab.grown hg7 (fun e=>by injection e with e;omega)).grown g8 (hne _ (by omega)),hm.kept g8 (hne _ (by omega)),hO,(h.next.kept hg7 (fun g hg e=>by have:=(h.next.lt g hg).1;injection e with e;omega)).kept g8 (fun g hg e=> ?_),?_,(h.acc.kept hg7 (fun g hg e=>by have:=(h.acc.lt g hg).1;injection e with e;omega)).kept g8 (fun g hg e=> ?_),Nat.le_trans hz s8,Nat.le_trans h.nN s8⟩
 ·exact h.lst.type h.next (by decide) g e hg.symm
 ·refine forall2_imp ?_ h.rows
  rintro u r ⟨g,e1,e2,e3,e4,e6⟩
  exact ⟨g,e1,(e2.grown hg7 (fun e=>by injection e with e;omega)).grown g8 (hrow g r e2),e3,e4,e6⟩
 ·exact h.lst.type h.acc (by decide) g e hg.symm
theorem ExW.addRow (h:ExW w X tb N cell nb ks nx ac po co pn cn pa ca us) {g:Nat} {r:List Nat} (hr:Row nV X g 3 r) (hgB:tb+5≤g) (hr2:r.length≤256) (hcl:cell.length=256) {o:Obj} {p:Option Addr} {c:Nat} {u:OC} (hu:u.1= .slice (some ⟨g,0,none⟩) r.length r.length)
  (hO:Mem.Own oV X' (tb+5) 92 (.slice p (us++[u]).length c) (us++[u])) (hG:(X.alloc o).grownBy X' (Value.slice pn us.length cn).ownBlock) {M:Nat} (hM:N≤M) (hgM:g<M) (hMX:M≤X'.heap.size):
  ExW w (X'.setCell ⟨tb+3,257,none⟩ (.slice p (us++[u]).length c)) tb M cell nb ks (nx++[r]) ac po co p c pa ca (us++[u]):=by
 have h':=h.alloc o
 have hz:=h'.sz
 have hlt:=fun g e=>(h.next.lt g e).1
 have hne:∀b,b<tb+5→some b≠(Value.slice pn us.length cn).ownBlock:=fun b hb e=>by have:=hlt b e.symm;omega
 have hgs:=grown_cell X' (tb+3) 257 (.slice p (us++[u]).length c)
 have hn3:∀b,b≠tb+3→some b≠some (tb+3):=fun b hb e=>hb (by injection e)
 have d1:=(h'.tab.grown hG (hne _ (by omega))).set 257 ⟨.slice p (us++[u]).length c,rfl⟩
 have e1:(tbL ⟨cell,nb,[],[]⟩ ⟨.slice pn us.length cn,rfl⟩ ⟨.slice pa ac.length ca,rfl⟩).set 257 ⟨.slice p (us++[u]).length c,rfl⟩=tbL ⟨cell,nb,[],[]⟩ ⟨.slice p (us++[u]).length c,rfl⟩ ⟨.slice pa ac.length ca,rfl⟩:=by
  unfold tbL
  rw [List.set_append_right _ _ (by rw [List.length_map];show cell.length≤257;omega),List.length_map]
  show _++List.set _ (257 - cell.length) _=_
  rw [hcl];rfl
 rw [e1] at d1
 have hzX:tb+5≤X'.heap.size:=Nat.le_trans h'.sz hG.size
 refine ⟨(h'.bel.grown hG (by omega) (fun k e=>by have:=hlt k e;omega)).grown hgs (by omega) (fun k e=>by injection e with e;omega),(h'.out.grown hG (hne _ (by omega))).grown hgs (hn3 _ (by omega)),d1,(h'.map.kept hG (hne _ (by omega))).kept hgs (hn3 _ (by omega)),(h'.lst.grown hG (fun k hk e=>h'.lst.type (h.next.alloc o) (by decide) k hk e)).grown hgs (fun k hk=>hn3 _ (by have:=(h.lst.lt k hk).1;omega)),hO.kept hgs (fun k hk e=>hn3 k (by have:=(hO.lt k hk).1;omega) e.symm),?_,(h'.acc.kept hG (fun k hk e=>own_apart h.next h.acc (by decide) k e hk)).kept hgs (fun k hk e=>hn3 k (by have:=(h.acc.lt k hk).1;omega) e.symm),Nat.le_trans hzX hgs.size,Nat.le_trans hMX hgs.size⟩
 refine f2_snoc (forall2_imp ?_ h.rows) ⟨g,hu,((hr.alloc o).grown hG (fun e=>own_row h.next hr (by decide) _ e.symm rfl)).grown hgs (hn3 _ (by omega)),hgB,hgM,hr2⟩
 rintro u' r' ⟨k,e1,e2,e3,e4,e6⟩
 exact ⟨k,e1,((e2.alloc o).grown hG (fun e=>own_row h.next e2 (by decide) _ e.symm rfl)).grown hgs (hn3 _ (by omega)),e3,by omega,e6⟩
theorem ExW.addAcc (h:ExW w X tb N cell nb ks nx ac po co pn cn pa ca us) (hcl:cell.length=256) {o:Obj} {b:Bool} {p:Option Addr} {c:Nat}
  (hO:Mem.Own Value.bool X' (tb+5) 4 (.slice p (ac++[b]).length c) (ac++[b])) (hG:(X.alloc o).grownBy X' (Value.slice pa ac.length ca).ownBlock):
  ExW w (X'.setCell ⟨tb+3,258,none⟩ (.slice p (ac++[b]).length c)) tb N cell nb ks nx (ac++[b]) po co pn cn p c us:=by
 have h':=h.alloc o
 have hz:=h'.sz
 have hlt:=fun g e=>(h.acc.lt g e).1
 have hne:∀b,b<tb+5→some b≠(Value.slice pa ac.length ca).ownBlock:=fun b hb e=>by have:=hlt b e.symm;omega
 have hgs:=grown_cell X' (tb+3) 258 (.slice p (ac++[b]).length c)
 have hn3:∀b,b≠tb+3→some b≠some (tb+3):=fun b hb e=>hb (by injection e)
 have d1:=(h'.tab.grown hG (hne _ (by omega))).set 258 ⟨.slice p (ac++[b]).length c,rfl⟩
 have e1:(tbL ⟨cell,nb,[],[]⟩ ⟨.slice pn us.length cn,rfl⟩ ⟨.slice pa ac.length ca,rfl⟩).set 258 ⟨.slice p (ac++[b]).length c,rfl⟩=tbL ⟨cell,nb,[],[]⟩ ⟨.slice pn us.length cn,rfl⟩ ⟨.slice p (ac++[b]).length c,rfl⟩:=by
  unfold tbL
  rw [List.set_append_right _ _ (by rw [List.length_map];show cell.length≤258;omega),List.length_map]
  show _++List.set _ (258 - cell.length) _=_
  rw [hcl];rfl
 rw [e1] at d1
 have hzX:tb+5≤X'.heap.size:=Nat.le_trans h'.sz hG.size
 refine ⟨(h'.bel.grown hG (by omega) (fun k e=>by have:=hlt k e;omega)).grown hgs (by omega) (fun k e=>by injection e with e;omega),(h'.out.grown hG (hne _ (by omega))).grown hgs (hn3 _ (by omega)),d1,(h'.map.kept hG (hne _ (by omega))).kept hgs (hn3 _ (by omega)),(h'.lst.grown hG (fun k hk e=>h'.lst.type (h.acc.alloc o) (by decide) k hk e)).grown hgs (fun k hk=>hn3 _ (by have:=(h.lst.lt k hk).1;omega)),(h'.next.kept hG (fun k hk e=>own_apart h.acc h.next (by decide) k e hk)).kept hgs (fun k hk e=>hn3 k (by have:=(h.next.lt k hk).1;omega) e.symm),?_,hO.kept hgs (fun k hk e=>hn3 k (by have:=(hO.lt k hk).1;omega) e.symm),Nat.le_trans hzX hgs.size,Nat.le_trans (Nat.le_trans h'.nN hG.size) hgs.size⟩
 refine forall2_imp ?_ h.rows
 rintro u' r' ⟨k,e1,e2,e3,e4,e6⟩
 exact ⟨k,e1,((e2.alloc o).grown hG (fun e=>own_row h.acc e2 (by decide) _ e.symm rfl)).grown hgs (hn3 _ (by omega)),e3,e4,e6⟩
end
end Go.Proofs.YtncnfncglacheaaGreatDoor
namespace Go.Proofs.YtncnfncglacheaaGreatDoor
open Go Go.RowKit Mem
set_option maxRecDepth 100000
theorem fold_put (off:Nat):∀(l mid pre post:List Value) (k:Nat),mid.length=l.length→off+k=pre.length→
  (l.zipIdx k).foldl (fun (cs:Array Value) (x:Value×Nat)=>cs.setIfInBounds (off+x.2) x.1) (pre++mid++post).toArray=(pre++l++post).toArray
 | [],[],pre,post,k,_,_=>by simp
 | [],_::_,_,_,_,h,_=>by simp at h
 | _::_,[],_,_,_,h,_=>by simp at h
 | c::l,d::mid,pre,post,k,h,hk=>by
  rw [List.zipIdx_cons,List.foldl_cons]
  have e:((pre++(d::mid)++post).toArray.setIfInBounds (off+k) c)=((pre++[c])++mid++post).toArray:=by
   rw [hk,List.setIfInBounds_toArray,List.append_assoc,List.set_append_right _ _ (Nat.le_refl _),Nat.sub_self]
   simp
  show List.foldl _ ((pre++(d::mid)++post).toArray.setIfInBounds (off+k) c) _=_
  rw [e,fold_put off l mid (pre++[c]) post (k+1) (by simpa using h) (by simp;omega)]
  simp
theorem built_tb (CA:Array Value) (cell:List Nat) (nb:Nat) (hCA:CA=(cell.map nV).toArray) (hcl:cell.length=256):
  ((Array.foldl (fun (cs:Array Value) (x:Value×Nat)=>cs.setIfInBounds x.snd x.fst) Tryz.zeroCells166 CA.zipIdx 0 CA.size).setIfInBounds 256 (.int .i64 (nb:Int)))=((tbL ⟨cell,nb,[],[]⟩ on on).map oV).toArray:=by
 have h:Tryz.zeroCells166=((List.replicate 256 (Value.int .i64 0))++[Value.int .i64 0, .slice none 0 0, .slice none 0 0]).toArray:=by kernel_rfl
 rw [h,hCA]
 have hf:=fold_put 0 (cell.map nV) (List.replicate 256 (Value.int .i64 0)) [] [Value.int .i64 0, .slice none 0 0, .slice none 0 0] 0 (by simp [hcl]) rfl
 rw [List.nil_append,List.nil_append] at hf
 have e2:Array.foldl (fun (cs:Array Value) (x:Value×Nat)=>cs.setIfInBounds x.snd x.fst) ((List.replicate 256 (Value.int .i64 0))++[Value.int .i64 0, .slice none 0 0, .slice none 0 0]).toArray (cell.map nV).toArray.zipIdx 0 (cell.map nV).toArray.size=(cell.map nV++[Value.int .i64 0, .slice none 0 0, .slice none 0 0]).toArray:=by
  have hz:(cell.map nV).toArray.size=(cell.map nV).toArray.zipIdx.size:=by simp
  rw [← hf,hz,← Array.foldl_toList,Array.toList_zipIdx]
  simp only [Nat.zero_add]
 rw [e2,List.setIfInBounds_toArray,List.set_append_right _ _ (by simp [hcl])]
 simp [hcl,tbL,oV,oi]
 rfl
structure NxC (w:World) (g:FuncId) (cp:Array Value) (ok:Sx→Prop) (bs:List Nat) (nxt:Sx→Nat→Sx):Prop where
 en:∀(args:Array Value) (w:World),Sem.run Tryz.prog (callFunc g args) w= .ok (.enter g args) w
 ca:∀X,Below w.heap.size w X→∀s,ok s→∀c∈bs,Calls Tryz.prog g (#[.agg (sxA s), .int .i64 (c:Int)]++cp) X fun e X'=>e= .returned (.agg (sxA (nxt s c)))∧Below X.heap.size X X'
structure AcC (w:World) (g:FuncId) (cp:Array Value) (ok:Sx→Prop) (acc:Sx→Bool):Prop where
 en:∀(args:Array Value) (w:World),Sem.run Tryz.prog (callFunc g args) w= .ok (.enter g args) w
 ca:∀X,Below w.heap.size w X→∀s,ok s→Calls Tryz.prog g (#[.agg (sxA s)]++cp) X fun e X'=>e= .returned (.bool (acc s))∧Below X.heap.size X X'
theorem agg256i:AggT Tryz.prog 152 256:=⟨fun _=>by kernel_rfl,fun _=>by kernel_rfl⟩
def TbS (w:World) (vn va:OC) (T:TB):Prop:=∀X,KeepT w X→RdNN X vn.1 T.nx∧Rd Value.bool X va.1 T.ac
theorem TbS.keep {w w':World} {vn va:OC} {T:TB} (h:TbS w vn va T) (hk:KeepT w w'):TbS w' vn va T:=fun X hX=>h X (hk.trans hX)
def ExRes (w':World) (e:Ending):Option TB→Prop
 | none=>e= .returned (.tuple #[.agg zTb, .bool false])
 | some T=>∃tn ta:OC,e= .returned (.tuple #[.agg ((tbL T tn ta).map oV).toArray, .bool true])∧TbS w' tn ta T∧T.cell.length=256
set_option maxHeartbeats 16000000 in
theorem tExplore (w:World) (CA:Array Value) (cell:List Nat) (hCA:CA=(cell.map nV).toArray) (hcl:cell.length=256) (vb:Value) (bs:List Nat) (hb:Rd nV w vb bs) (hb256:bs.length≤256)
  (ok:Sx→Prop) (start:Sx) (hs:ok start) (hok:∀s,ok s→okSx s) (nxt:Sx→Nat→Sx) (acc:Sx→Bool) (hnx:∀s,ok s→∀c∈bs,ok (nxt s c)) (gn ga:FuncId) (cn ca:Array Value) (hN:NxC w gn cn ok bs nxt) (hA:AcC w ga ca ok acc) (m K:Nat) (hm:1≤m) (hm2:m≤1073741824) (hK:∀l:List Sx,XOk ok m l→l.length≤K) (hK6:K≤65535):
  Calls Tryz.prog 184 #[.agg CA,vb, .agg (sxA start), .func (.func gn) #[] cn, .func (.func ga) #[] ca, .int .i64 (m:Int)] w fun e w'=>Below w.heap.size w w'∧ExRes w' e (expl cell bs start nxt acc m K):=by
 obtain ⟨pb,kb,rfl⟩:=hb.slice
 have HB:=Lib.hid hb
 have HN:=Lib.hid hN
 have HA:=Lib.hid hA
 have HOKX:=Lib.hid hok
 have HNX:=Lib.hid hnx
 have HK:=Lib.hid hK
 have HS:=Lib.hid hs
 obtain ⟨n,Hn⟩:∃n,Hid (bs.length=n):=⟨_,Lib.hid rfl⟩
 rw [Hn.out] at hb256 HB ⊢
 have r0:Row nV (w.alloc (.cells CA 152)) w.heap.size 152 cell:=Row.new _ _ (by rw [hCA])
 have HCA:=Lib.hid hCA
 have Hcl:=Lib.hid hcl
 have hA2:AggT Tryz.prog 152 cell.length:=by rw [hcl];exact agg256i
 have s0:(w.alloc (.cells CA 152)).heap.size=w.heap.size+1:=World.size_alloc _ _
 have b0:Below w.heap.size w (w.alloc (.cells CA 152)):=(Below.refl _ _).alloc (Nat.le_refl _) _
 have r1:Row oV ((w.alloc (.cells CA 152)).alloc (.cells (sxA start) 286)) (w.heap.size+1) 286 (sxL start):=by
  have h:=Row.new (f:=oV) (w.alloc (.cells CA 152)) (t:=286) (l:=sxL start) (.cells (sxA start) 286) rfl
  rwa [s0] at h
 have s1:((w.alloc (.cells CA 152)).alloc (.cells (sxA start) 286)).heap.size=w.heap.size+2:=by rw [World.size_alloc,s0]
 clear hb hN hA hok hnx hK hs hCA hcl
 go_enter Tryz.func184,Tryz.ntmps184
 go_upto_region 1 with ((with_reducible refine alloc_big (t:=166) zTb zeroTb ?_ ?_ (w.heap.size+2) ?_ ?_);rfl;rfl;exact s1)
 have r0':=(r0.alloc (.cells (sxA start) 286)).alloc (.cells zTb 166)
 have r1':=r1.alloc (.cells zTb 166)
 have b2:=(b0.alloc (by rw [s0];omega) (.cells (sxA start) 286)).alloc (by rw [s1];omega) (.cells zTb 166)
 have r2:Row oV (((w.alloc (.cells CA 152)).alloc (.cells (sxA start) 286)).alloc (.cells zTb 166)) (w.heap.size+2) 166 (tbL ⟨List.replicate 256 0,0,[],[]⟩ on on):=by
  have h:=Row.new (f:=oV) ((w.alloc (.cells CA 152)).alloc (.cells (sxA start) 286)) (t:=166) (l:=tbL ⟨List.replicate 256 0,0,[],[]⟩ on on) (.cells zTb 166) rfl
  rwa [s1] at h
 have s2:(((w.alloc (.cells CA 152)).alloc (.cells (sxA start) 286)).alloc (.cells zTb 166)).heap.size=w.heap.size+3:=by rw [World.size_alloc,s1]
 generalize (((w.alloc (.cells CA 152)).alloc (.cells (sxA start) 286)).alloc (.cells zTb 166))=W at r0' r1' r2 b2 s2 ⊢
 clear r0 s0 b0 r1 s1
 obtain ⟨C0,HC0⟩:∃C,Hid (C=((tbL ⟨cell,n,[],[]⟩ on on).map oV).toArray):=⟨_,Lib.hid rfl⟩
 have hbu:=built_tb CA cell n HCA.out Hcl.out
 have hCAs:CA.size=256:=by rw [HCA.out];simp [Hcl.out]
 rw [← HC0.out,hCAs] at hbu
 obtain ⟨F1,hF1⟩:∃F,Array.foldl (fun (cs:Array Value) (x:Value×Nat)=>cs.setIfInBounds x.snd x.fst) Tryz.zeroCells166 CA.zipIdx 0 256=F:=⟨_,rfl⟩
 rw [hF1] at hbu
 have hF2:F1.size=259:=by
  have h:=congrArg Array.size hbu
  rw [HC0.out] at h
  simpa [tbL,Hcl.out] using h
 have r3:Row oV (W.alloc (.cells zTb 166)) (w.heap.size+3) 166 (tbL ⟨List.replicate 256 0,0,[],[]⟩ on on):=by
  have h:=Row.new (f:=oV) W (t:=166) (l:=tbL ⟨List.replicate 256 0,0,[],[]⟩ on on) (.cells zTb 166) rfl
  rwa [s2] at h
 have b3:=b2.alloc (by rw [s2];omega) (.cells zTb 166)
 have r13:=r1'.alloc (.cells zTb 166)
 have r23:=r2.alloc (.cells zTb 166)
 have s3:(W.alloc (.cells zTb 166)).heap.size=w.heap.size+4:=by rw [World.size_alloc,s2]
 have hAT:AggT Tryz.prog 166 (tbL ⟨cell,n,[],[]⟩ on on).length:=by rw [tbL_length _ _ Hcl.out];exact aggTb
 have hLT:(tbL ⟨cell,n,[],[]⟩ on on).length=(tbL ⟨List.replicate 256 0,0,[],[]⟩ on on).length:=by rw [tbL_length _ _ Hcl.out,tbL_length _ _ (by simp)]
 go_upto_region 2 with (first
  | ((with_reducible refine zL r0'.at hA2 HCA.out ?_))
  | ((with_reducible refine alloc_big (t:=166) zTb zeroTb ?_ ?_ (w.heap.size+3) ?_ ?_);rfl;rfl;exact s2)
  | ((with_reducible refine store_agg (f:=oV) (l:=tbL ⟨List.replicate 256 0,0,[],[]⟩ on on) (l':=tbL ⟨cell,n,[],[]⟩ on on) (t:=166) (C:=C0) hAT (.tmp 14) (.tmp 27) ?_ ?_ (w.heap.size+3) ?_ HC0.out ?_ r3 hLT oV_one ?_);rfl;rfl;rfl;(first | rfl | exact congrArg Value.agg hbu);(intro W6 hs6 hG6 hz6)))
 have b6:=b3.grown hG6 (by omega) (fun k e=>by injection e with e;omega)
 have r16:=r13.grown hG6 (by simp)
 have r26:=r23.grown hG6 (by simp)
 have s6:=hz6.trans s3
 clear hCAs hF1 hF2 r0' r1' r2 b2 s2 r3 b3 r13 r23 s3 hbu hG6 hz6 hLT hAT HC0 hA2
 clear F1 W
 obtain ⟨tb,Htb⟩:∃tb,Hid (w.heap.size=tb):=⟨_,Lib.hid rfl⟩
 rw [Htb.out] at b6 r16 r26 s6 hs6 ⊢
 have hmm:= @run_makeMap Tryz.prog
 have hmp:MapI okSx encS Tryz.prog 286 3 (W6.alloc (.map #[] 0)) (tb+4) []:=by
  have h:=MapI.made (ok:=okSx) (enc:=encS) (P:=Tryz.prog) (K:=286) (E:=3) W6
  rwa [s6] at h
 have r17:=r16.alloc (.map #[] 0)
 have HOS:Hid (okSx start):=Lib.hid (HOKX.out _ HS.out)
 have hkey:=keyOfS start HOS.out
 go_upto_region 3 with (first
  | ((with_reducible refine zL r17.at aggS (sxL_A start) ?_))
  | ((with_reducible refine map_ins hmp ?_ (.tmp 28) (.tmp 29) (.const (.int .i64 0)) ?_ kS Tryz.underlying340 Tryz.underlying3 encS_inj encS_key ?_ start HOS.out (by simp) (by simp) (.agg (sxA start)) ?_ hkey ?_ ?_);rfl;rfl;rfl;rfl;rfl;(intro W7 hMp7 hG7)))
 have hz6:(W6.alloc (.map #[] 0)).heap.size=tb+5:=by rw [World.size_alloc,s6]
 have r18:=r17.grown hG7 (by simp)
 have r28:=(r26.alloc (.map #[] 0)).grown hG7 (by simp)
 have t8:=(hs6.alloc (.map #[] 0)).grown hG7 (by simp)
 have b8:=(b6.alloc (by rw [s6];omega) (.map #[] 0)).grown hG7 (by rw [hz6];omega) (fun k e=>by injection e with e;omega)
 have hz7:tb+5≤W7.heap.size:=by have h:=hG7.size;rw [hz6] at h;exact h
 clear hmm hmp r16 r17 r26 b6 s6 hs6 hG7 hz6 hkey
 clear W6
 have hks:∀x:Sx,Array.foldl (fun (cs:Array Value) (x:Value×Nat)=>cs.setIfInBounds x.snd x.fst) #[Value.int .i64 0,Value.int .i64 0,Value.int .u64 0] (sxA x).zipIdx 0 3=sxA x:=fun x=>rfl
 have hS3:∀x:Sx,(sxA x).size=3:=fun x=>rfl
 go_upto_region 4 with ((with_reducible refine zL r18.at aggS (sxL_A start) ?_))
 have hL0:OwnK 3 sxL (W7.alloc (.cells (sxA start) 286)) (tb+5) 286 (.slice (some ⟨W7.heap.size,0,none⟩) 1 1) [start]:=ownK_one W7 rfl hz7 sxL_len start (sxL_A start)
 have hX0:ExW w (W7.alloc (.cells (sxA start) 286)) tb (tb+5) cell n [start] [] [] (some ⟨W7.heap.size,0,none⟩) 1 none 0 none 0 []:=
  ⟨b8.alloc (by omega) _,r28.alloc _,t8.alloc _,hMp7.alloc _,hL0,Own.nil _ _ _, .nil,Own.nil _ _ _,by rw [World.size_alloc];omega,by rw [World.size_alloc];omega⟩
 have hG0:Hid (expl cell bs start nxt acc m K=(xF m nxt acc bs (K - 0) 0 ⟨[start],[],[]⟩).map fun a=>⟨cell,bs.length,a.nx,a.ac⟩):=Lib.hid rfl
 have hO0:XA.Ok ok m bs.length 0 ⟨[start],[],[]⟩:=xa0_ok HS.out hm
 rw [Hn.out] at hO0
 generalize (W7.alloc (.cells (sxA start) 286))=W8 at hX0 ⊢
 generalize (some (⟨W7.heap.size,0,none⟩:Addr))=p0 at hX0 ⊢
 clear hL0 r28 t8 b8 hMp7 r18 hz7
 clear W7
 generalize Value.agg C0=vC0
 generalize Value.agg (sxA start)=vS0
 generalize Value.agg CA=vCA
 go_wp2_with fail
 go_loopw [16,17] (fun s16 s17 wr=>∃(i:Nat) (a:XA) (po:Option Addr) (co:Nat) (pn:Option Addr) (cn:Nat) (pa:Option Addr) (ca:Nat) (us:List OC) (N:Nat),s17= .int .i64 i∧s16= .slice po a.ks.length co∧Hid (expl cell bs start nxt acc m K=(xF m nxt acc bs (K - i) i a).map fun a=>⟨cell,bs.length,a.nx,a.ac⟩)∧Hid (XA.Ok ok m n i a)∧ExW w wr tb N cell n a.ks a.nx a.ac po co pn cn pa ca us) (fun _ s17 _=>K - (intOf s17).toNat)
 case atStart=>exact ⟨0,⟨[start],[],[]⟩,p0,1,none,0,none,0,[],tb+5,rfl,rfl,hG0,Lib.hid hO0,hX0⟩
 case round=>
  clear hX0 hG0 hO0
  obtain ⟨i,a,po,co,pn,c2,pa,c3',us,N,rfl,rfl,HG,HO,hX⟩:=hrel
  by_cases hlt:i<a.ks.length
  ·have hq:(i:Int)<(a.ks.length:Int):=by omega
   have hkK:a.ks.length≤K:=HK.out _ HO.out.toXOk
   have hkm:a.ks.length≤m:=HO.out.le
   obtain ⟨s,Hs⟩:∃s,Hid (a.ks.getD i sx0=s):=⟨_,Lib.hid rfl⟩
   have HSI:Hid (ok s):=Lib.hid (by rw [← Hs.out];exact HO.out.ok _ (getD_mem _ _ _ hlt))
   obtain ⟨MB,hMB⟩:∃C,Hid (C=((List.replicate n 0).map nV).toArray):=⟨_,Lib.hid rfl⟩
   have hmk:∀w:World,(Instr.makeSlice 92 (.int .i64 (n:Int)) (.int .i64 (n:Int))).run Tryz.prog w= .ok (.slice (some ⟨w.heap.size,0,none⟩) n n) (w.alloc (.cells MB 3)):=fun w=>by rw [hMB.out];exact mkIntN w n (by omega)
   have hRow:Row nV (wr.alloc (.cells MB 3)) wr.heap.size 3 (List.replicate n 0):=Row.new _ _ (by rw [hMB.out])
   have hX1:=(hX.alloc (.cells MB 3)).mono (M:=wr.heap.size) hX.nN (by rw [World.size_alloc];omega)
   have hgN:=hX.nN
   have hgB:=hX.sz
   have hg1:wr.heap.size+1≤(wr.alloc (.cells MB 3)).heap.size:=by rw [World.size_alloc];exact Nat.le_refl _
   have hst0:XS.Ok ok m ⟨a.ks,[]⟩:={toXOk:=HO.out.toXOk,rb:=by simp}
   go_upto_region 9 with (fail)
   obtain ⟨g1,Hg1⟩:∃g,Hid (wr.heap.size=g):=⟨_,Lib.hid rfl⟩
   rw [Hg1.out] at hRow hX1 hgN hgB hg1 ⊢
   generalize (wr.alloc (.cells MB 3))=W1 at hRow hX1 hg1 ⊢
   clear hX hmk hMB
   go_wp2_with fail
   go_loopw [16,44] (fun s16 s44 wq=>∃(j:Nat) (st:XS) (po:Option Addr) (co:Nat),j≤n∧s44= .int .i64 j∧s16= .slice po st.ks.length co∧Hid (xrow m nxt s (bs.take j) ⟨a.ks,[]⟩=some st)∧Hid (st.Ok ok m∧st.row.length=j∧∃z,st.ks=a.ks++z)∧ExW w wq tb g1 cell n st.ks a.nx a.ac po co pn c2 pa c3' us∧Row nV wq g1 3 (st.row++List.replicate (n - j) 0)∧g1+1≤wq.heap.size) (fun _ s44 _=>n - (intOf s44).toNat)
   case atStart=>exact ⟨0,⟨a.ks,[]⟩,po,co,Nat.zero_le _,rfl,rfl,Lib.hid rfl,Lib.hid ⟨hst0,rfl,[],(List.append_nil _).symm⟩,hX1,by simpa using hRow,hg1⟩
   case round=>
    clear hRow hX1 hg1 hst0
    clear W1
    obtain ⟨j,st,p2,k2,hj,rfl,rfl,HXR,HST,hX,hR,hg1⟩:=hrel
    by_cases hjn:j<n
    ·have hjq:(j:Int)<(n:Int):=by omega
     obtain ⟨cb,cO,rfl,hct⟩:=rdN_at HB.out j hjn
     have hBW:Below w.heap.size w wr:=by rw [Htb.out];exact hX.bel
     have ct:=hct wr hBW
     have hjb:j<bs.length:=by rw [Hn.out];exact hjn
     obtain ⟨c,Hc⟩:∃c,Hid (bs.getD j 0=c):=⟨_,Lib.hid rfl⟩
     have HCM:Hid (c∈bs):=Lib.hid (by rw [← Hc.out];exact getD_mem _ _ _ hjb)
     rw [Hc.out] at ct
     have hkl:a.ks.length≤st.ks.length:=by obtain ⟨_,_,z,hz⟩:=HST.out;rw [hz,List.length_append];omega
     have hil:i<st.ks.length:=by omega
     have hiq:(i:Int)<(st.ks.length:Int):=by omega
     have hgi:st.ks[i]=s:=by
      obtain ⟨_,_,z,hz⟩:=HST.out
      rw [← Hs.out,List.getD_eq_getElem?_getD,List.getElem?_eq_getElem hlt]
      simp only [hz]
      rw [List.getElem_append_left hlt];rfl
     obtain ⟨g,rfl,hgl,hat⟩:=ownK_elem sxL_len hX.lst i hil
     rw [hgi] at hat
     have hen:=HN.out.en
     clear hct hkl hil hgi
     go_wp2_with ((with_reducible refine zL hat aggS rfl (C:=sxA s) ?_))
     refine (HN.out.ca _ hBW s HSI.out c HCM.out).mono ?_
     rintro e W2 ⟨rfl,hB2⟩
     obtain ⟨t,Ht⟩:∃t,Hid (nxt s c=t):=⟨_,Lib.hid rfl⟩
     have HTI:Hid (ok t):=Lib.hid (by rw [← Ht.out];exact HNX.out _ HSI.out _ HCM.out)
     have HXR1:Hid (xrow m nxt s (bs.take (j+1)) ⟨a.ks,[]⟩=xput m st t):=Lib.hid (by
      have e:bs[j]=c:=by rw [← Hc.out,List.getD_eq_getElem?_getD,List.getElem?_eq_getElem hjb];rfl
      rw [xrow_take _ _ _ _ _ _ hjb,HXR.out,e,Ht.out];rfl)
     rw [Ht.out]
     have hX2:=hX.under hB2
     have hR2:=hR.below hB2 (by omega)
     have hg2:=Nat.le_trans hg1 hB2.size
     clear hB2 hX hR hg1 hat hen ct hBW hgl
     obtain ⟨kb2,Hkb⟩:∃k,Hid (W2.heap.size=k):=⟨_,Lib.hid rfl⟩
     have hk0:Row oV (W2.alloc (.cells #[.int .i64 0, .int .i64 0, .int .u64 0] 286)) W2.heap.size 286 (sxL sx0):=Row.new _ _ rfl
     have hX3:=hX2.alloc (.cells #[.int .i64 0, .int .i64 0, .int .u64 0] 286)
     have hR3:=hR2.alloc (.cells #[.int .i64 0, .int .i64 0, .int .u64 0] 286)
     have hX2n:=hX2.nN
     have hX2z:=hX2.sz
     have hgr:=World.size_alloc W2 (.cells #[.int .i64 0, .int .i64 0, .int .u64 0] 286)
     rw [Hkb.out] at hk0 hX2n hX2z hgr hg2
     go_upto_region 12 with ((with_reducible refine store_agg (f:=oV) (l:=sxL sx0) (l':=sxL t) (t:=286) (C:=sxA t) aggS (.tmp 21) (.tmp 55) ?_ ?_ kb2 ?_ rfl ?_ hk0 rfl oV_one ?_);rfl;rfl;(first | rfl | exact congrArg (fun n=>Value.pointer (some ⟨n,0,none⟩)) Hkb.out);rfl;(intro W3 hs3 hG3 hz3))
     rw [Hkb.out]
     have hX4:=hX3.grown hG3 (fun k e=>by
      injection e with e
      subst e
      exact ⟨hX2n,hX2z,fun e=>by have h1:=(hX2.lst.lt _ e).2;have h2:=Hkb.out;omega,fun e=>by have h1:=(hX2.next.lt _ e).2;have h2:=Hkb.out;omega,fun e=>by have h1:=(hX2.acc.lt _ e).2;have h2:=Hkb.out;omega⟩)
     have hR4:=hR3.grown hG3 (by simp;omega)
     have hg4:g1+1≤W3.heap.size:=by rw [hz3,hgr];omega
     have hkn:kb2<W3.heap.size:=hs3.lt
     clear hk0 hX3 hR3 hG3 hz3 hgr hX2 hR2 Hkb
     clear W2 wr
     have HOP:Hid (okSx t):=Lib.hid (HOKX.out _ HTI.out)
     have HKey:Hid (Go.keyOf Tryz.prog 286 (.agg (sxA t))=some (encS t)):=Lib.hid (keyOfS t HOP.out)
     have hz:∀w:World,(zeroValue 3).run Tryz.prog w= .ok (.int .i64 0) w:=fun w=>by kernel_rfl
     have hmp:=hX4.map
     have HXP:Hid (xput m st t=if t∈st.ks then some {st with row:=st.row++[st.ks.idxOf t]} else if st.ks.length=m then none else some ⟨st.ks++[t],st.row++[st.ks.length]⟩):=Lib.hid rfl
     obtain ⟨hS1,hS2,hS4⟩:=HST.out
     have hkK2:st.ks.length≤K:=HK.out _ hS1.toXOk
     have hrl:(st.row++List.replicate (n - j) 0).length=n:=by rw [List.length_append,List.length_replicate,hS2];omega
     have hjr:j<(st.row++List.replicate (n - j) 0).length:=by rw [hrl];exact hjn
     have hsn:∀q:Nat,(st.row++List.replicate (n - j) 0).set j q=(st.row++[q])++List.replicate (n - (j+1)) 0:=fun q=>snoc_set hS2 hjn
     have HSN:=Lib.hid hsn
     clear hsn hS1
     by_cases hm:t∈st.ks
     ·rw [if_pos hm] at HXP
      obtain ⟨q,Hq⟩:∃q,Hid (@List.idxOf _ instBEqOfDecidableEq t st.ks=q):=⟨_,Lib.hid rfl⟩
      have hqe:st.ks.idxOf t=q:=by rw [← Hq.out];first | rfl | (rw [← idxOf_gen])
      rw [hqe] at HXP
      have HM:=Lib.hid hm
      clear hm hqe
      have c3:=rowN_at hR4 j hjr
      have f3:=hR4.frozen j
      have hX5:=hX4.row g1 j hR4 (.int .i64 (q:Int)) (Nat.le_refl _) hgB
      have hR5:=hR4.set j q
      rw [HSN.out q] at hR5
      have hg5:=Nat.le_trans hg4 (grown_cell W3 g1 j (.int .i64 (q:Int))).size
      have HX5:Hid (ExW w (W3.setCell ⟨g1,j,none⟩ (.int .i64 (q:Int))) tb g1 cell n st.ks a.nx a.ac (some ⟨g,0,none⟩) k2 pn c2 pa c3' us∧Row nV (W3.setCell ⟨g1,j,none⟩ (.int .i64 (q:Int))) g1 3 ((st.row++[q])++List.replicate (n - (j+1)) 0)∧g1+1≤(W3.setCell ⟨g1,j,none⟩ (.int .i64 (q:Int))).heap.size):=Lib.hid ⟨hX5,hR5,hg5⟩
      have HS5:Hid (XS.Ok ok m {st with row:=st.row++[q]}∧(st.row++[q]).length=j+1∧∃z,st.ks=a.ks++z):=Lib.hid (by
       obtain ⟨h1,h2,h3⟩:=HST.out
       exact ⟨(xput_ok h1 HTI.out HXP.out).1,by rw [List.length_append,h2];rfl,h3⟩)
      clear hX4 hR4 hg4 hX5 hR5 hg5
      go_wp2_with (first
       | ((with_reducible refine zL hs3.at aggS rfl (C:=sxA t) ?_))
       | (at_lookup;(with_reducible refine map_look_yes hmp ?_ (.tmp 57) (.tmp 58) ?_ kS Tryz.underlying340 Tryz.underlying3 (hz _) ?_ t HOP.out HM.out q Hq.out _ ?_ HKey.out ?_);rfl;rfl;rfl;rfl))
      go_roundw
      case rel=>exact ⟨j+1,{st with row:=st.row++[q]},_,k2,by omega,by go_num,rfl,Lib.hid (HXR1.out.trans HXP.out),HS5,HX5.out.1,HX5.out.2.1,HX5.out.2.2⟩
      case measure=>simp [intOf];omega
     ·rw [if_neg hm] at HXP
      have HM:=Lib.hid hm
      clear hm
      by_cases hcap:st.ks.length=m
      ·rw [if_pos hcap] at HXP
       have hci:(st.ks.length:Int)=(m:Int):=by omega
       have HE:Hid (expl cell bs start nxt acc m K=none):=Lib.hid (by
        have h1:xrow m nxt s (bs.take (j+1)) ⟨a.ks,[]⟩=none:=HXR1.out.trans HXP.out
        have h2:=xrow_fail m nxt s bs ⟨a.ks,[]⟩ (j+1) h1
        rw [HG.out,xF_step m nxt acc bs K i a hlt hkK,Hs.out,h2];rfl)
       have hout:=hX4.out
       have HX4:=Lib.hid hX4
       have hATz:AggT Tryz.prog 166 (tbL ⟨List.replicate 256 0,0,[],[]⟩ on on).length:=by rw [tbL_length _ _ (by simp)];exact aggTb
       have hZC:Tryz.zeroCells166=((tbL ⟨List.replicate 256 0,0,[],[]⟩ on on).map oV).toArray:=by kernel_rfl
       clear hX4
       go_wp2_with (first
        | ((with_reducible refine zL hs3.at aggS rfl (C:=sxA t) ?_))
        | (at_lookup;(with_reducible refine map_look_no hmp ?_ (.tmp 57) (.tmp 58) ?_ kS Tryz.underlying340 Tryz.underlying3 (hz _) ?_ t HOP.out HM.out _ ?_ HKey.out ?_);rfl;rfl;rfl;rfl)
        | ((with_reducible refine store_agg (f:=oV) (l:=tbL ⟨List.replicate 256 0,0,[],[]⟩ on on) (l':=tbL ⟨List.replicate 256 0,0,[],[]⟩ on on) (t:=166) (C:=Tryz.zeroCells166) hATz (.tmp 12) (.tmp 69) ?_ ?_ (tb+2) ?_ hZC ?_ hout rfl oV_one ?_);rfl;rfl;rfl;rfl;(intro W9 hs9 hG9 hz9)))
       have hBf:Below tb w W9:=HX4.out.bel.grown hG9 (by have:=HX4.out.sz;omega) (fun k e=>by injection e with e;omega)
       refine bodyPost_ret (v:= .tuple #[.agg ((tbL ⟨List.replicate 256 0,0,[],[]⟩ on on).map oV).toArray, .bool false]) (results_agg2 (f:=oV) (l:=tbL ⟨List.replicate 256 0,0,[],[]⟩ on on) (t:=13) rfl _ hATz (tb+2) 0 rfl hs9.at) rfl ?_
       refine ⟨by rw [Htb.out];exact hBf,?_⟩
       rw [HE.out]
       exact rfl
      ·rw [if_neg hcap] at HXP
       have hci:¬(st.ks.length:Int)=(m:Int):=by omega
       obtain ⟨ks2,Hks2⟩:∃l,Hid (st.ks++[t]=l):=⟨_,Lib.hid rfl⟩
       obtain ⟨L,HL⟩:∃L,Hid (st.ks.length=L):=⟨_,Lib.hid rfl⟩
       have HO4:=Lib.hid hX4.lst
       have HX4:=Lib.hid hX4
       have HR4:=Lib.hid hR4
       have hkl:st.ks.length<1000000000:=by omega
       have Hkl:=Lib.hid hkl
       have Hl1:Hid ((st.ks.length+1) * 24≤140737488355328):=Lib.hid (by omega)
       have Hl2:Hid (st.ks.length+1≤140737488355328):=Lib.hid (by omega)
       clear hX4 hR4 hkl
       go_wp2_with (first
        | ((with_reducible refine zL hs3.at aggS rfl (C:=sxA t) ?_))
        | (at_lookup;(with_reducible refine map_look_no hmp ?_ (.tmp 57) (.tmp 58) ?_ kS Tryz.underlying340 Tryz.underlying3 (hz _) ?_ t HOP.out HM.out _ ?_ HKey.out ?_);rfl;rfl;rfl;rfl)
        | (at_mapUpdate;(with_reducible refine map_put hmp ?_ (.tmp 70) (.tmp 71) (.tmp 72) ?_ kS Tryz.underlying340 Tryz.underlying3 encS_inj encS_key ?_ t HOP.out HM.out Hkl.out _ ?_ HKey.out ?_ ?_);rfl;rfl;rfl;rfl;rfl;(intro W7 hMp7 hG7);(have hs7:=hs3.grown hG7 (by simp;omega));(have hO7:=HO4.out.grown hG7 (fun g hg e=>by have:=(HO4.out.lt g hg).1;injection e with e;omega));(have hz7:tb+5≤W7.heap.size:=Nat.le_trans HX4.out.sz hG7.size);(have hR7:=HR4.out.grown hG7 (by simp;omega)))
        | ((with_reducible refine zL hs7.at aggS rfl (C:=sxA t) ?_))
        | (at_builtin;(with_reducible refine append_k eltKS (by decide) sxL_len (.tmp 73) (.tmp 75) ?_ ?_ ?_ hO7 t (sxA t) (sxL_A t) 286 ?_ Hl1.out Hl2.out hz7 ks2 Hks2.out ?_);rfl;rfl;rfl;rfl;(intro p8 k8 W8 hO8 hB8 hG8);(have hR8:=(hR7.alloc (.cells (sxA t) 286)).grown hG8 (fun e=>HO4.out.row HR4.out (by decide) _ e.symm rfl));(have c3:=rowN_at hR8 j hjr);(have f3:=hR8.frozen j)))
       have HF:Hid (ExW w (W8.setCell ⟨g1,j,none⟩ (.int .i64 (st.ks.length:Int))) tb g1 cell n ks2 a.nx a.ac p8 k8 pn c2 pa c3' us∧Row nV (W8.setCell ⟨g1,j,none⟩ (.int .i64 (st.ks.length:Int))) g1 3 ((st.row++[st.ks.length])++List.replicate (n - (j+1)) 0)∧g1+1≤(W8.setCell ⟨g1,j,none⟩ (.int .i64 (st.ks.length:Int))).heap.size):=Lib.hid (by
        rw [← Hks2.out] at hO8 ⊢
        have h8:=HX4.out.add hMp7 hG7 hO8 hG8
        refine ⟨h8.row g1 j hR8 _ (Nat.le_refl _) hgB,?_,?_⟩
        ·have h:=hR8.set j st.ks.length
         rwa [HSN.out] at h
        ·have h1:=hG7.size
         have h2:=hG8.size
         rw [World.size_alloc] at h2
         have h3:=(grown_cell W8 g1 j (.int .i64 (st.ks.length:Int))).size
         omega)
       have HS6:Hid (XS.Ok ok m ⟨ks2,st.row++[st.ks.length]⟩∧(st.row++[st.ks.length]).length=j+1∧∃z,ks2=a.ks++z):=Lib.hid (by
        obtain ⟨h1,h2,z,h3⟩:=HST.out
        have h4:=(xput_ok h1 HTI.out HXP.out).1
        rw [Hks2.out] at h4
        exact ⟨h4,by rw [List.length_append,h2];rfl,z++[t],by rw [← Hks2.out,h3,List.append_assoc]⟩)
       have HXE:Hid (xrow m nxt s (bs.take (j+1)) ⟨a.ks,[]⟩=some ⟨ks2,st.row++[st.ks.length]⟩):=Lib.hid (by rw [HXR1.out,HXP.out,Hks2.out])
       clear hMp7 hG7 hs7 hO7 hz7 hR7 hO8 hB8 hG8 hR8 c3 f3
       go_roundw
       case rel=>exact ⟨j+1,⟨ks2,st.row++[st.ks.length]⟩,p8,k8,by omega,by go_num,rfl,HXE,HS6,HF.out.1,HF.out.2.1,HF.out.2.2⟩
       case measure=>simp [intOf];omega
    ·obtain rfl:j=n:=by omega
     rw [Nat.sub_self,List.replicate_zero,List.append_nil] at hR
     have HXE:Hid (xrow m nxt s bs ⟨a.ks,[]⟩=some st):=Lib.hid (by
      have h:=HXR.out
      rwa [List.take_of_length_le (by rw [Hn.out];exact Nat.le_refl _)] at h)
     obtain ⟨hS1,hS2,zz,hS4⟩:=HST.out
     have HS1:=Lib.hid hS1
     have HS2:=Lib.hid hS2
     have HS4:=Lib.hid hS4
     have hist:i<st.ks.length:=by rw [hS4,List.length_append];omega
     have hgi:st.ks[i]=s:=by
      rw [← Hs.out,List.getD_eq_getElem?_getD,List.getElem?_eq_getElem hlt]
      simp only [hS4]
      rw [List.getElem_append_left hlt];rfl
     have Hgi:=Lib.hid hgi
     clear hS1 hS2 hS4 hgi
     have hul:us.length=i:=by rw [f2_length hX.rows];exact HO.out.nl
     have hulb:us.length≤65535:=by omega
     have c1B:wr.cell? ⟨tb+3,257,none⟩=some (.slice pn us.length c2):=by rw [hX.tab.cell?,show 257=256+1 from rfl,tbL_hi _ _ Hcl.out];rfl
     have f1B:=hX.tab.frozen 257
     have hszB:=hX.sz
     have hO3:=hX.next
     obtain ⟨y,Hy⟩:∃y:OC,Hid (y.1= .slice (some ⟨g1,0,none⟩) j j):=⟨⟨.slice (some ⟨g1,0,none⟩) j j,rfl⟩,Lib.hid rfl⟩
     have hyo:Value.slice (some ⟨g1,0,none⟩) j j=oV y:=Hy.out.symm
     obtain ⟨us2,Hus2⟩:∃l,Hid (us++[y]=l):=⟨_,Lib.hid rfl⟩
     have HDF:=Lib.hid (hX.alloc (.cells #[.slice (some ⟨g1,0,none⟩) j j] 92)).tab
     have HNB:Hid (some (tb+3)≠(Value.slice pn us.length c2).ownBlock):=Lib.hid (fun e=>by have:=(hO3.lt _ e.symm).1;omega)
     have Hyo:=Lib.hid hyo
     have HX:=Lib.hid hX
     have HR:=Lib.hid hR
     have Hul:=Lib.hid hul
     have hL1:Hid ((us.length+1) * 24≤140737488355328):=Lib.hid (by omega)
     have hL2:Hid (us.length+1≤140737488355328):=Lib.hid (by omega)
     clear hyo hul hX hR
     go_upto_region 22 with (at_builtin;(with_reducible refine append_one eltNN (.tmp 83) (.tmp 85) ?_ ?_ oV_one ?_ hO3 y _ ?_ _ ?_ hL1.out hL2.out hszB us2 Hus2.out ?_);rfl;rfl;rfl;(exact Hyo.out);rfl;(intro p8 c8 W8 hO8 hB8 hG8);(have hd8:=HDF.out.grown hG8 HNB.out);(have c1B8:W8.cell? ⟨tb+3,257,none⟩=some (.slice pn us.length c2):=by rw [hd8.cell?,show 257=256+1 from rfl,tbL_hi _ _ Hcl.out];rfl);(have f1B8:=hd8.frozen 257))
     have hX10:ExW w (W8.setCell ⟨tb+3,257,none⟩ (.slice p8 us2.length c8)) tb W8.heap.size cell j st.ks (a.nx++[st.row]) a.ac p2 k2 p8 c8 pa c3' us2:=by
      rw [← Hus2.out] at hO8 ⊢
      have hgs:=hG8.size
      rw [World.size_alloc] at hgs
      have hNN:=HX.out.nN
      exact HX.out.addRow HR.out hgB (by rw [HS2.out];omega) Hcl.out (by rw [HS2.out];exact Hy.out) hO8 hG8 (by omega) (by omega) (Nat.le_refl _)
     generalize (W8.setCell ⟨tb+3,257,none⟩ (.slice p8 us2.length c8))=W10 at hX10 ⊢
     obtain ⟨N2,HN2⟩:∃N2,Hid (W8.heap.size=N2):=⟨_,Lib.hid rfl⟩
     rw [HN2.out] at hX10
     clear hd8 c1B8 f1B8 hO8 hG8 hB8 hO3 c1B f1B hszB
     obtain ⟨g,rfl,hgl,hat⟩:=ownK_elem sxL_len hX10.lst i hist
     rw [Hgi.out] at hat
     have hiq:(i:Int)<(st.ks.length:Int):=by omega
     have hBW:Below w.heap.size w W10:=by rw [Htb.out];exact hX10.bel
     have ht3:=hX10.tab.lt
     have hcp:∀X,Below W10.heap.size W10 X→X.cell? ⟨tb+3,258,none⟩=some (.slice pa a.ac.length c3'):=fun X h=>by
      rw [(hX10.tab.below h ht3).cell?,show 258=256+2 from rfl,tbL_hi _ _ Hcl.out];rfl
     have hwz:w.heap.size≤W10.heap.size:=hBW.size
     have hz10:=hX10.sz
     have HX10:=Lib.hid hX10
     clear hX10
     refine region_headsT (S:=fun X=>Below W10.heap.size W10 X) 9 rfl (by kernel_rfl) (Below.refl _ _).drew fun hS=> ?_
     refine tk 0 88 (.pointer (some ⟨tb+3,258,none⟩)) hS ?_
     refine tk 1 89 (.slice pa a.ac.length c3') hS ?_ rfl (qi fun W' h=>by have q0:=hcp W' h;go_simp)
     refine tk 2 90 (.func (.func ga) #[] ca) hS ?_
     refine tk 3 91 (.slice (some ⟨g,0,none⟩) st.ks.length k2) hS ?_
     refine tk 4 92 (.int .i64 i) hS ?_
     refine tk 5 93 (.pointer (some ⟨g,i * 3,none⟩)) hS ?_ rfl yg
     refine tk 6 94 (.agg (sxA s)) hS ?_ rfl (yieldsIf_load (f:=oV) (l:=sxL s) aggS (.tmp 93) rfl g (i * 3) rfl (fun W' h=>hat.below h hgl) rfl rfl)
     refine rdT 7 (fun K' hK=> ?_)
     refine callD (d:=95) (g:=ga) (args:= #[.agg (sxA s)]++ca) rfl rfl (by simp [execOp,resolve,invoke,Act.eval,HA.out.en,Deferred.ofValue]) ?_
     refine (HA.out.ca _ (hBW.drew) s HSI.out).mono ?_
     rintro e Wb ⟨rfl,hBb⟩
     obtain ⟨z,Hz⟩:∃z,Hid (acc s=z):=⟨_,Lib.hid rfl⟩
     rw [Hz.out]
     have hS2:=hS.trans (hBb.mono hS.size)
     refine ⟨_,rfl,hK.out _ _ hS2 fun _=> ?_⟩
     simp only [sA,sB,sC]
     have hXb:=HX10.out.under hS2
     have hszb:W10.heap.size≤Wb.heap.size:=hS2.size
     clear hK hBb hcp hat
     refine rdT 8 (fun K' hK=> ?_)
     refine valD (d:=96) (v:= .slice (some ⟨Wb.heap.size,0,none⟩) 1 1) (w':=Wb.alloc (.cells #[.bool z] 4)) rfl rfl (by go_simp) ?_
     have hS3:Below W10.heap.size W10 (Wb.alloc (.cells #[.bool z] 4)):=hS2.alloc hS2.size _
     refine hK.out _ _ hS3 fun _=> ?_
     clear hK
     simp only [sA,sB,sC]
     refine headsT_tail (by kernel_rfl) ?_
     simp only [List.drop]
     obtain ⟨ac2,Hac2⟩:∃l,Hid (a.ac++[z]=l):=⟨_,Lib.hid rfl⟩
     have hacl:a.ac.length=i:=HO.out.al
     have hA1:(a.ac.length+1) * 1≤140737488355328:=by omega
     have hA2:a.ac.length+1≤140737488355328:=by omega
     refine append_one eltNB (.tmp 89) (.tmp 96) rfl rfl bV_one rfl hXb.acc z (.bool z) rfl 4 rfl hA1 hA2 hXb.sz ac2 Hac2.out ?_
     intro p9 c9 W9 hO9 hB9 hG9
     have hX11:ExW w (W9.setCell ⟨tb+3,258,none⟩ (.slice p9 ac2.length c9)) tb N2 cell j st.ks (a.nx++[st.row]) ac2 (some ⟨g,0,none⟩) k2 p8 c8 p9 c9 us2:=by
      rw [← Hac2.out] at hO9 ⊢
      exact hXb.addAcc Hcl.out hO9 hG9
     have hd9:=(hXb.tab.alloc (.cells #[.bool z] 4)).grown hG9 (fun e=>by have:=(hXb.acc.lt _ e.symm).1;omega)
     have c9B:W9.cell? ⟨tb+3,258,none⟩=some (.slice pa a.ac.length c3'):=by rw [hd9.cell?,show 258=256+2 from rfl,tbL_hi _ _ Hcl.out];rfl
     have f9B:=hd9.frozen 258
     have HG1:Hid (expl cell bs start nxt acc m K=(xF m nxt acc bs (K - (i+1)) (i+1) ⟨st.ks,a.nx++[st.row],ac2⟩).map fun a=>⟨cell,bs.length,a.nx,a.ac⟩):=Lib.hid (by
      rw [HG.out,xF_step m nxt acc bs K i a hlt hkK,Hs.out,HXE.out,← Hac2.out,← Hz.out];rfl)
     have HO1:Hid (XA.Ok ok m j (i+1) ⟨st.ks,a.nx++[st.row],ac2⟩):=Lib.hid (by
      have h:=HO.out
      rw [← Hn.out] at h ⊢
      have h2:=xa_step h HNX.out hlt (by rw [Hs.out];exact HXE.out) z
      rw [Hac2.out] at h2
      exact h2)
     clear hO9 hB9 hG9 hd9 hXb hS hS2 hS3
     go_wp2_with fail
     go_roundw
     case rel=>exact ⟨i+1,⟨st.ks,a.nx++[st.row],ac2⟩,some ⟨g,0,none⟩,k2,p8,c8,p9,c9,us2,N2,by go_num,rfl,HG1,HO1,hX11⟩
     case measure=>simp [intOf];omega
  ·have hq:¬(i:Int)<(a.ks.length:Int):=by omega
   have HE:Hid (expl cell bs start nxt acc m K=some ⟨cell,n,a.nx,a.ac⟩):=Lib.hid (by rw [HG.out,xF_end _ _ _ _ _ _ _ (by omega),← Hn.out];rfl)
   have htab:=hX.tab
   have hout:=hX.out
   have HX:=Lib.hid hX
   have hul:us.length=a.nx.length:=f2_length hX.rows
   have Hul:=Lib.hid hul
   clear hX hul
   obtain ⟨L3,HL3⟩:∃l:List OC,Hid (l=tbL ⟨cell,n,[],[]⟩ ⟨.slice pn us.length c2,rfl⟩ ⟨.slice pa a.ac.length c3',rfl⟩):=⟨_,Lib.hid rfl⟩
   rw [← HL3.out] at htab
   obtain ⟨C3,HC3⟩:∃C,Hid (C=(L3.map oV).toArray):=⟨_,Lib.hid rfl⟩
   have hL3:L3.length=259:=by rw [HL3.out];exact tbL_length _ _ Hcl.out
   have hA3:AggT Tryz.prog 166 L3.length:=by rw [hL3];exact aggTb
   have hLz:L3.length=(tbL ⟨List.replicate 256 0,0,[],[]⟩ on on).length:=by rw [hL3,tbL_length _ _ (by simp)]
   go_wp2_with (first
    | ((with_reducible refine zL htab.at hA3 HC3.out ?_))
    | ((with_reducible refine store_agg (f:=oV) (l:=tbL ⟨List.replicate 256 0,0,[],[]⟩ on on) (l':=L3) (t:=166) (C:=C3) hA3 (.tmp 12) (.tmp 99) ?_ ?_ (tb+2) ?_ HC3.out ?_ hout hLz oV_one ?_);rfl;rfl;rfl;rfl;(intro W9 hs9 hG9 hz9)))
   have hBf:Below tb w W9:=HX.out.bel.grown hG9 (by have:=HX.out.sz;omega) (fun k e=>by injection e with e;omega)
   refine bodyPost_ret (v:= .tuple #[.agg (L3.map oV).toArray, .bool true]) (results_agg2 (f:=oV) (l:=L3) (t:=13) rfl _ hA3 (tb+2) 0 rfl hs9.at) rfl ?_
   have hN9:=HX.out.next.kept hG9 (fun g hg e=>by have:=(HX.out.next.lt g hg).1;injection e with e;omega)
   have hA9:=HX.out.acc.kept hG9 (fun g hg e=>by have:=(HX.out.acc.lt g hg).1;injection e with e;omega)
   refine ⟨by rw [Htb.out];exact hBf,?_⟩
   rw [HE.out]
   refine ⟨⟨.slice pn us.length c2,rfl⟩,⟨.slice pa a.ac.length c3',rfl⟩,by rw [HL3.out];rfl,fun X hX=>⟨?_,(Mem.Own.keepT hA9 hX (by decide)).rd⟩,Hcl.out⟩
   rcases (Mem.Own.keepT hN9 hX (by decide)).rd with ⟨p0,e0,e1⟩ | ⟨b1,o1,c1,e1,e2,e3,e4⟩
   ·refine .inl ⟨p0,e0,?_⟩
    have hul:=Hul.out
    rw [e1] at hul
    exact List.length_eq_zero_iff.1 hul.symm
   ·refine .inr ⟨b1,o1,c1,by rw [← Hul.out];exact e1,by rw [← Hul.out];exact e2,fun k hk=> ?_,e4⟩
    have hku:k<us.length:=by rw [Hul.out];exact hk
    obtain ⟨g,u1,u2,u3,_,u6⟩:=f2_get HX.out.rows k hku hk
    refine ⟨us[k].1,?_,?_⟩
    ·have h:=e3 k hku
     rw [List.getElem?_eq_getElem hku] at h
     exact h
    ·rw [u1]
     exact (own_of_row (base:=0) (Mem.Row.keepT (u2.grown hG9 (fun e=>by injection e with e;omega)) hX (by decide)) (Nat.zero_le _) (by unfold maxLen;show a.nx[k].length≤_;omega)).rd
end Go.Proofs.YtncnfncglacheaaGreatDoor
namespace Go.Proofs.YtncnfncglacheaaGreatDoor
open Go Go.RowKit Mem
set_option maxRecDepth 100000
set_option maxHeartbeats 16000000
theorem load_agg_g {α:Type} {f:α→Value} {w:World} {l:List α} {P:Program} {ops:Array Oper} {rest:List Oper} {o:Oper} {a:Act} {Q:Exit→Act→World→Prop} {ty:TypeId} (T:AggT P ty l.length) (x:Operand)
  (hw:Region.wanted o (yielded ops a.tmps)=true) (ho:o.op= .load ty x) (b off:Nat) (hx:a.eval x= .pointer (some ⟨b,off,none⟩)) (h:At f w b off l)
  {C:Array Value} (hC:C=(l.map f).toArray) (hk:wpList P ops Q rest (a.put o.dst (.agg C)) w):wpList P ops Q (o::rest) a w:=by
 subst hC
 refine wpList_step fun K hK=> ?_
 rw [if_pos hw]
 unfold Oper.wp execOp
 simp only [ho,hx,Instr.loadAt,Instr.sureAddr,Sem.run_bind,Sem.run_pure,Result.andThen_ok,run_load_agg T h]
 exact hK _ _ hk
structure TbB (w:World) (b:Nat) (C:Array Value) (T:TB) (L:List OC):Prop where
 row:Row oV w b 166 L
 ce:C=(L.map oV).toArray
 at':TbAt w C T
 len:L.length=259
theorem TbB.below {w w':World} {b:Nat} {C:Array Value} {T:TB} {L:List OC} (h:TbB w b C T L) (hb:Below w.heap.size w w'):TbB w' b C T L:=⟨h.row.below hb h.row.lt,h.ce,h.at'.below hb,h.len⟩
theorem TbAt.list {w:World} {C:Array Value} {T:TB} (h:TbAt w C T):∃L:List OC,C=(L.map oV).toArray∧L.length=259:=by
 obtain ⟨vn,va,h1,_,_,h3⟩:=h
 exact ⟨_,h1,tbL_length _ _ h3⟩
theorem sx_at {X:World} {b:Nat} {s:Sx} (h:Row oV X b 286 (sxL s)):At oV X b 2 [ow (Go.Proofs.YtncnfncglacheaaGreatDoor.X s.2.2)]:=fun i hi=>by
 have:i=0:=by simpa using hi
 subst this
 rw [h.cell?];rfl
theorem aggSet:AggT Tryz.prog 284 1:=⟨fun _=>by kernel_rfl,fun _=>by kernel_rfl⟩
theorem set_list (s:UInt64):setA s=(([ow (X s)]:List OC).map oV).toArray:=rfl
theorem starNext (w:World) (xb:Nat) (C:Array Value) (T:TB) (L:List OC) (hB:TbB w xb C T L) (hT:T.Ok) (h64:T.nx.length≤64) (s:Sx) (c:Nat) (hc:c<256):
  Calls Tryz.prog 231 #[.agg (sxA s), .int .i64 (c:Int), .pointer (some ⟨xb,0,none⟩)] w fun e w'=>e= .returned (.agg (sxA (starN T s c)))∧Below w.heap.size w w':=by
 have HT:=Lib.hid hT
 have hA3:AggT Tryz.prog 166 L.length:=by rw [hB.len];exact aggTb
 have hs0:Row oV (w.alloc (.cells (sxA s) 286)) w.heap.size 286 (sxL s):=Row.new _ _ (congrArg (fun C=>Obj.cells C 286) (sxL_A s))
 go_enter Tryz.func231,Tryz.ntmps231
 go_upto_region 1 with (fail)
 have h0:=hs0.alloc (.cells #[.int .i64 0, .int .i64 0, .int .u64 0] 286)
 have s0:(w.alloc (.cells (sxA s) 286)).heap.size=w.heap.size+1:=World.size_alloc _ _
 have r0:Row oV ((w.alloc (.cells (sxA s) 286)).alloc (.cells #[.int .i64 0, .int .i64 0, .int .u64 0] 286)) (w.heap.size+1) 286 (sxL sx0):=by
  have h:=Row.new (f:=oV) (w.alloc (.cells (sxA s) 286)) (t:=286) (l:=sxL sx0) (.cells #[.int .i64 0, .int .i64 0, .int .u64 0] 286) rfl
  rwa [s0] at h
 have b0:Below w.heap.size w ((w.alloc (.cells (sxA s) 286)).alloc (.cells #[.int .i64 0, .int .i64 0, .int .u64 0] 286)):=((Below.refl _ _).alloc (Nat.le_refl _) _).alloc (by rw [s0];omega) _
 have HB:=Lib.hid hB
 clear hB hs0 s0
 generalize ((w.alloc (.cells (sxA s) 286)).alloc (.cells #[.int .i64 0, .int .i64 0, .int .u64 0] 286))=W at h0 r0 b0 ⊢
 have hb1:=HB.out.below b0
 have ha:=sx_at h0
 obtain ⟨tg,Hto⟩:∃o,Hid (T.targets s.2.2 c=o):=⟨_,Lib.hid rfl⟩
 have hcl:=tTargets W C T hb1.at' hT h64 s.2.2 c hc
 rw [Hto.out] at hcl
 have hb1r:=hb1.row.at
 have hw0:=hb1.row.lt
 have hbs:=b0.size
 have Hcl:=Lib.hid hcl
 clear hcl
 go_upto_region 2 with (first
  | ((with_reducible refine load_agg (f:=oV) (l:=L) (C:=C) hA3 (.tmp 2) ?_ ?_ xb 0 ?_ hb1r HB.out.ce ?_);rfl;rfl;rfl)
  | ((with_reducible refine load_agg (f:=oV) (l:=[ow (X s.2.2)]) (C:=setA s.2.2) aggSet (.tmp 8) ?_ ?_ w.heap.size 2 ?_ ha (set_list _) ?_);rfl;rfl;rfl)
  | (go_at_call 183;refine Hcl.out.mono ?_;rintro e W2 ⟨rfl,hB2⟩;(have hz2:Row oV (W2.alloc (.cells #[.int .u64 0] 284)) W2.heap.size 284 [ow (X 0)]:=Row.new _ _ rfl))
  | ((with_reducible refine store_agg (f:=oV) (l:=[ow (X 0)]) (l':=[ow (X tg)]) (t:=284) (C:=setA tg) aggSet (.tmp 6) (.tmp 11) ?_ ?_ W2.heap.size ?_ (set_list _) ?_ hz2 rfl oV_one ?_);rfl;rfl;rfl;rfl;(intro W3 hs3 hG3 hz3)))
 have bW:Below W.heap.size W W3:=hB2.trans ((((Below.refl _ _).alloc (Nat.le_refl _) _).grown hG3 (by rw [World.size_alloc];omega) (fun k e=>by injection e with e;omega)).mono hB2.size)
 have r3:=r0.below bW r0.lt
 have b3:Below w.heap.size w W3:=b0.trans (bW.mono hbs)
 have hb3:=HB.out.below b3
 have hs3c:W3.cell? ⟨W2.heap.size,0,none⟩=some (.int .u64 (X tg)):=hs3.cell? 0
 have hs3f:=hs3.frozen 0
 have hne:w.heap.size+1≠W2.heap.size:=by have:=r0.lt;have:=hB2.size;omega
 have hwk:w.heap.size≤W2.heap.size:=by have:=hB2.size;omega
 have hz3l:=hs3.lt
 clear Hcl hb1 ha h0 r0 b0 hb1r hw0 hbs hB2 hz2 hG3 hz3 bW
 obtain ⟨kb,Hkb⟩:∃k,Hid (W2.heap.size=k):=⟨_,Lib.hid rfl⟩
 rw [Hkb.out] at hs3 hs3c hs3f hne hwk hz3l ⊢
 clear Hkb
 clear W2 W
 obtain ⟨z,Hz⟩:∃z,Hid (T.some tg=z):=⟨_,Lib.hid rfl⟩
 have hcl:=tSome W3 C T hb3.at' hT h64 tg
 rw [Hz.out] at hcl
 have hb3r:=hb3.row.at
 have HcL:=Lib.hid hcl
 clear hcl
 have HN:Hid (starN T s c=if z=true then (0,0,tg ||| 1) else (0,0,tg)):=Lib.hid (by unfold starN;rw [Hto.out,Hz.out])
 have hor:bits .or .u64 (X tg) 1=X (tg ||| 1):=X_or tg 1
 obtain ⟨o1,Ho1⟩:∃o,Hid (tg ||| 1=o):=⟨_,Lib.hid rfl⟩
 rw [Ho1.out] at hor HN
 go_upto_if 14 with (first
  | ((with_reducible refine load_agg (f:=oV) (l:=L) (C:=C) hA3 (.tmp 2) ?_ ?_ xb 0 ?_ hb3r HB.out.ce ?_);rfl;rfl;rfl)
  | ((with_reducible refine load_agg (f:=oV) (l:=[ow (X tg)]) (C:=setA tg) aggSet (.tmp 6) ?_ ?_ kb 0 ?_ hs3.at (set_list _) ?_);rfl;rfl;rfl)
  | (go_at_call 186;refine HcL.out.mono ?_;rintro e W4 ⟨rfl,hB4⟩))
 have hs4:=hs3.below hB4 hz3l
 have r4:=r3.below hB4 r3.lt
 have b4:=b3.trans (hB4.mono b3.size)
 have c4:W4.cell? ⟨kb,0,none⟩=some (.int .u64 (X tg)):=hs4.cell? 0
 have f4:=hs4.frozen 0
 have hX:=X_nonneg tg
 have hks:∀u:UInt64,Array.foldl (fun (cs:Array Value) (x:Value×Nat)=>cs.setIfInBounds (2+x.snd) x.fst) #[Value.int .i64 0,Value.int .i64 0,Value.int .u64 0] (setA u).zipIdx 0 1=sxA (0,0,u):=fun u=>rfl
 have hkz:∀u:UInt64,(setA u).size=1:=fun u=>rfl
 clear hs3 hs3c hs3f r3 b3 hb3 hb3r hB4 HB hz3l HcL
 clear W3
 cases z with
 | false=>
  have HN2:=HN.out
  rw [if_neg (by decide)] at HN2
  have HN2:=Lib.hid HN2
  clear HN hor
  go_wp2_with (first
   | ((with_reducible refine load_agg (f:=oV) (l:=[ow (X tg)]) (C:=setA tg) aggSet (.tmp 6) ?_ ?_ kb 0 ?_ hs4.at (set_list _) ?_);rfl;rfl;rfl)
   | ((with_reducible refine store_agg (f:=oV) (l:=sxL sx0) (l':=sxL (0,0,tg)) (t:=286) (C:=sxA (0,0,tg)) aggS (.tmp 5) (.tmp 20) ?_ ?_ (w.heap.size+1) ?_ (sxL_A _) ?_ r4 rfl oV_one ?_);rfl;rfl;rfl;rfl;(intro W9 hs9 hG9 hz9)))
  have hBf:=b4.grown hG9 b4.size (fun k e=>by injection e with e;omega)
  refine bodyPost_ret (results_agg (f:=oV) (l:=sxL (0,0,tg)) rfl _ aggS (w.heap.size+1) 0 rfl hs9.at) rfl ?_
  exact ⟨by rw [HN2.out];rfl,hBf⟩
 | true=>
  have HN2:=HN.out
  rw [if_pos rfl] at HN2
  have HN2:=Lib.hid HN2
  clear HN
  have hs5:Row oV (W4.setCell ⟨kb,0,none⟩ (.int .u64 (X o1))) kb 284 [ow (X o1)]:=hs4.set 0 (ow (X o1))
  have hg5:=grown_cell W4 kb 0 (.int .u64 (X o1))
  have r5:=r4.grown hg5 (by simpa using hne)
  have b5:=b4.grown hg5 b4.size (fun k e=>by injection e with e;omega)
  clear hg5
  go_wp2_with (first
   | ((with_reducible refine load_agg (f:=oV) (l:=[ow (X o1)]) (C:=setA o1) aggSet (.tmp 6) ?_ ?_ kb 0 ?_ hs5.at (set_list _) ?_);rfl;rfl;rfl)
   | ((with_reducible refine store_agg (f:=oV) (l:=sxL sx0) (l':=sxL (0,0,o1)) (t:=286) (C:=sxA (0,0,o1)) aggS (.tmp 5) (.tmp 20) ?_ ?_ (w.heap.size+1) ?_ (sxL_A _) ?_ r5 rfl oV_one ?_);rfl;rfl;rfl;rfl;(intro W9 hs9 hG9 hz9)))
  have hBf:=b5.grown hG9 b5.size (fun k e=>by injection e with e;omega)
  refine bodyPost_ret (results_agg (f:=oV) (l:=sxL (0,0,o1)) rfl _ aggS (w.heap.size+1) 0 rfl hs9.at) rfl ?_
  exact ⟨by rw [HN2.out];rfl,hBf⟩
theorem starAcc (w:World) (xb:Nat) (C:Array Value) (T:TB) (L:List OC) (hB:TbB w xb C T L) (hT:T.Ok) (h64:T.nx.length≤64) (s:Sx):
  Calls Tryz.prog 232 #[.agg (sxA s), .pointer (some ⟨xb,0,none⟩)] w fun e w'=>e= .returned (.bool (s.1==1 || T.some s.2.2))∧Below w.heap.size w w':=by
 have hA3:AggT Tryz.prog 166 L.length:=by rw [hB.len];exact aggTb
 have hs0:Row oV (w.alloc (.cells (sxA s) 286)) w.heap.size 286 (sxL s):=Row.new _ _ (congrArg (fun C=>Obj.cells C 286) (sxL_A s))
 have b0:Below w.heap.size w (w.alloc (.cells (sxA s) 286)):=(Below.refl _ _).alloc (Nat.le_refl _) _
 have hB1:=hB.below b0
 go_enter Tryz.func232,Tryz.ntmps232
 go_upto_region 1 with (fail)
 generalize (w.alloc (.cells (sxA s) 286))=W at hs0 b0 hB1 ⊢
 have ha:=sx_at hs0
 have c0:W.cell? ⟨w.heap.size,0,none⟩=some (.int .i64 (s.1:Int)):=hs0.cell? 0
 have hb1r:=hB1.row.at
 have hcl:=tSome W C T hB1.at' hT h64 s.2.2
 obtain ⟨z,Hz⟩:∃z,Hid (T.some s.2.2=z):=⟨_,Lib.hid rfl⟩
 rw [Hz.out] at hcl
 have Hcl:=Lib.hid hcl
 have HC:=Lib.hid hB.ce
 have HE:Hid ((s.1==1 || T.some s.2.2)=(s.1==1 || z)):=Lib.hid (by rw [Hz.out])
 obtain ⟨b,Hb⟩:∃b,Hid ((s.1==1 || T.some s.2.2)=b):=⟨_,Lib.hid rfl⟩
 rw [Hb.out] at HE
 clear hcl hB hB1 hs0
 by_cases h1:s.1=1
 ·have hb:b=true:=by rw [HE.out,h1];rfl
  have hi:(s.1:Int)=1:=by omega
  subst hb
  rw [hi] at c0
  go_wp2_with fail
  go_ret
  exact ⟨by rw [Hb.out];rfl,b0⟩
 ·have hb:b=z:=by
   rw [HE.out,beq_eq_false_iff_ne.2 h1,Bool.false_or]
  have hi:¬(s.1:Int)=1:=by omega
  have hd:((s.1:Int)==1)=false:=beq_eq_false_iff_ne.2 hi
  clear hi
  subst hb
  go_wp2_with (first
   | ((with_reducible refine load_agg_g (f:=oV) (l:=L) (C:=C) hA3 (.tmp 1) ?_ ?_ xb 0 ?_ hb1r HC.out ?_);rfl;rfl;rfl)
   | ((with_reducible refine load_agg_g (f:=oV) (l:=[ow (X s.2.2)]) (C:=setA s.2.2) aggSet (.tmp 9) ?_ ?_ w.heap.size 2 ?_ ha (set_list _) ?_);rfl;rfl;rfl))
  refine Hcl.out.mono ?_
  rintro e W4 ⟨rfl,hB4⟩
  go_wp2_with fail
  go_ret
  exact ⟨by rw [Hb.out];rfl,b0.trans (hB4.mono b0.size)⟩
theorem tstar_sx (x:TB) (s:Sx) (c:Nat):(starN x s c).1=0∧(starN x s c).2.1=0:=by
 unfold starN;split<;>exact ⟨rfl,rfl⟩
theorem jnt_ok {x y:TB} (c:Nat) (hc:c∈(jnt x y).bs):c<256:=(jointK_ok x.cell y.cell 256 (Nat.le_refl _)).bb c hc
theorem catX_ok {D:DF} (h:D.V):(catX D).Ok∧(catX D).nx.length≤64:=by
 have h1:=(tabOf_ok h.toOk).canon
 refine ⟨tabOf_ok h1.1,?_⟩
 show (tabOf D).canon.nx.length≤64
 have h2:(tabOf D).nx.length=D.nx.length:=rfl
 have h3:=h.n64
 have h4:=h1.2
 omega
theorem tStar (w:World) (v:Value) (D:DF) (hv:DfAt w v D) (hV:D.V) (hTab:Tab w) (htl:1<w.heap.size):
  Calls Tryz.prog 192 #[v] w fun e w'=>∃v,e= .returned v∧DfRes w' v D.star∧Below w.heap.size w w':=by
 have HV:=Lib.hid hV
 have HA:=Lib.hid hv
 have HTab:=Lib.hid hTab
 obtain ⟨p1,k1,p2,k2,p3,k3,rfl⟩:=hv.parts
 obtain ⟨n1,Hn1⟩:∃n,Hid (D.cls.length=n):=⟨_,Lib.hid rfl⟩
 obtain ⟨n2,Hn2⟩:∃n,Hid (D.nx.length=n):=⟨_,Lib.hid rfl⟩
 obtain ⟨n3,Hn3⟩:∃n,Hid (D.ac.length=n):=⟨_,Lib.hid rfl⟩
 rw [Hn1.out,Hn2.out,Hn3.out] at HA ⊢
 clear hv hV hTab
 go_enter Tryz.func192,Tryz.ntmps192
 go_upto_region 1 with (fail)
 have hD0:Row oV ((w.alloc (.cells #[.slice p1 n1 k1, .slice p2 n2 k2, .slice p3 n3 k3] 79)).alloc (.cells #[.slice none 0 0, .slice none 0 0, .slice none 0 0] 79)) w.heap.size 79 (slO3 p1 n1 k1 p2 n2 k2 p3 n3 k3):=(Row.new w (.cells #[.slice p1 n1 k1, .slice p2 n2 k2, .slice p3 n3 k3] 79) rfl).alloc _
 have hR1:Row oV ((w.alloc (.cells #[.slice p1 n1 k1, .slice p2 n2 k2, .slice p3 n3 k3] 79)).alloc (.cells #[.slice none 0 0, .slice none 0 0, .slice none 0 0] 79)) (w.heap.size+1) 79 [on,on,on]:=by
  have h:=Row.new (f:=oV) (w.alloc (.cells #[.slice p1 n1 k1, .slice p2 n2 k2, .slice p3 n3 k3] 79)) (t:=79) (l:=[on,on,on]) _ rfl
  rw [World.size_alloc] at h
  exact h
 have hB0:Below w.heap.size w ((w.alloc (.cells #[.slice p1 n1 k1, .slice p2 n2 k2, .slice p3 n3 k3] 79)).alloc (.cells #[.slice none 0 0, .slice none 0 0, .slice none 0 0] 79)):=((Below.refl _ _).alloc (Nat.le_refl _) _).alloc (by simp) _
 generalize ((w.alloc (.cells #[.slice p1 n1 k1, .slice p2 n2 k2, .slice p3 n3 k3] 79)).alloc (.cells #[.slice none 0 0, .slice none 0 0, .slice none 0 0] 79))=W at hB0 hD0 hR1 ⊢
 have hval:=dValid W _ D (HA.out.below hB0) HV.out
 have Hval:=Lib.hid hval
 have Htl:=Lib.hid htl
 obtain ⟨tb,Htb⟩:∃tb,Hid (w.heap.size=tb):=⟨_,Lib.hid rfl⟩
 rw [Htb.out] at hB0 hD0 hR1 ⊢
 clear hval htl
 go_upto_region 3 with (first
  | ((with_reducible refine load_agg (f:=oV) (l:=slO3 p1 n1 k1 p2 n2 k2 p3 n3 k3) (C:= #[.slice p1 n1 k1, .slice p2 n2 k2, .slice p3 n3 k3]) aggD (.tmp 1) ?_ ?_ tb 0 ?_ hD0.at ?_ ?_);rfl;rfl;rfl;rfl)
  | (go_at_call 69;refine Hval.out.mono ?_;rintro e Wb ⟨rfl,hBb⟩))
 have hDb:=hD0.below hBb hD0.lt
 have hRb:=hR1.below hBb hR1.lt
 have hRl:=hR1.lt
 have hBw:Below tb w Wb:=hB0.trans (hBb.mono (by omega))
 have HTabB:Hid (Tab Wb):=Lib.hid (HTab.out.below (by rw [Htb.out];exact hBw) Htl.out)
 have htab:=dTable Wb _ D (HA.out.below (by rw [Htb.out];exact hBw)) HV.out.c256 HTabB.out
 have Htab:=Lib.hid htab
 have HOKT:=Lib.hid (tabOf_ok HV.out.toOk)
 have Hlt3:Hid (1<Wb.heap.size):=Lib.hid (Nat.lt_of_lt_of_le Htl.out hBw.size)
 obtain ⟨x,Hx⟩:∃x,Hid (catX D=x):=⟨_,Lib.hid rfl⟩
 have HXO:Hid (x.Ok∧x.nx.length≤64):=Lib.hid (by rw [← Hx.out];exact catX_ok HV.out)
 clear htab hD0 hB0 hBb hR1
 go_wp2_with ((with_reducible refine load_agg (f:=oV) (l:=slO3 p1 n1 k1 p2 n2 k2 p3 n3 k3) (C:= #[.slice p1 n1 k1, .slice p2 n2 k2, .slice p3 n3 k3]) aggD (.tmp 1) ?_ ?_ tb 0 ?_ hDb.at ?_ ?_);rfl;rfl;rfl;rfl)
 refine Htab.out.mono ?_
 rintro e Wc ⟨C,rfl,hC,hBc⟩
 go_wp2_with fail
 refine (tCanon Wc C _ hC HOKT.out).mono ?_
 rintro e Wd ⟨v,rfl,hv,hBd⟩
 have htab2:=dTable Wd v (tabOf D).canon hv HOKT.out.canon.1.c256 (HTabB.out.below (hBc.trans (hBd.mono hBc.size)) Hlt3.out)
 rw [show tabOf (tabOf D).canon=x from Hx.out] at htab2
 have Htab2:=Lib.hid htab2
 have hBd2:Below Wb.heap.size Wb Wd:=hBc.trans (hBd.mono hBc.size)
 clear htab2 hC hv hBc hBd Htab
 go_wp2_with fail
 refine Htab2.out.mono ?_
 rintro e We ⟨C2,rfl,hC2,hBe⟩
 obtain ⟨L2,hL2,hl2⟩:=hC2.list
 have HL2:=Lib.hid hL2
 have hA3:AggT Tryz.prog 166 L2.length:=by rw [hl2];exact aggTb
 have hLz:L2.length=(tbL ⟨List.replicate 256 0,0,[],[]⟩ on on).length:=by rw [hl2,tbL_length _ _ (by simp)]
 have Hl2:=Lib.hid hl2
 have hz4:Row oV (We.alloc (.cells zTb 166)) We.heap.size 166 (tbL ⟨List.replicate 256 0,0,[],[]⟩ on on):=Row.new _ _ rfl
 have HC2:=Lib.hid hC2
 clear hL2 hl2 hC2 Htab2
 go_upto_region 4 with (first
  | ((with_reducible refine alloc_big (t:=166) zTb zeroTb ?_ ?_ We.heap.size ?_ ?_);rfl;rfl;rfl)
  | ((with_reducible refine store_agg (f:=oV) (l:=tbL ⟨List.replicate 256 0,0,[],[]⟩ on on) (l':=L2) (t:=166) (C:=C2) hA3 (.tmp 4) (.tmp 17) ?_ ?_ We.heap.size ?_ HL2.out ?_ hz4 hLz oV_one ?_);rfl;rfl;rfl;rfl;(intro Wf hsf hGf hzf)))
 have hbA:Below We.heap.size We (We.alloc (.cells zTb 166)):=(Below.refl _ _).alloc (Nat.le_refl _) _
 have hbF:Below We.heap.size We Wf:=hbA.grown hGf (by rw [World.size_alloc];omega) (fun k e=>by injection e with e;omega)
 have hBf:Below Wb.heap.size Wb Wf:=(hBd2.trans (hBe.mono hBd2.size)).trans (hbF.mono (Nat.le_trans hBd2.size hBe.size))
 have hatF:TbAt Wf C2 x:=HC2.out.below hbF
 have hTB:TbB Wf We.heap.size C2 x L2:=⟨hsf,HL2.out,hatF,Hl2.out⟩
 have hDf:=hDb.below hBf hDb.lt
 have hRf:=hRb.below hBf hRb.lt
 have hBwf:Below tb w Wf:=hBw.trans (hBf.mono (by have:=hRb.lt;omega))
 have hRbl:=hRb.lt
 have hwe:Wb.heap.size≤We.heap.size:=Nat.le_trans hBd2.size hBe.size
 have hwf:=hsf.lt
 clear hbA hbF hz4 hGf hzf hBd2 hBe HC2 hDb hBf
 obtain ⟨xb,Hxb⟩:∃b,Hid (We.heap.size=b):=⟨_,Lib.hid rfl⟩
 rw [Hxb.out] at hsf hTB hwe hwf ⊢
 clear Hxb hLz
 clear We Wd Wc
 obtain ⟨J,HJ⟩:∃J,Hid (jnt x x=J):=⟨_,Lib.hid rfl⟩
 have hxc:∀c∈x.cell,c<65536:=fun c hc=>by have h1:=HXO.out.1.cb c hc;have h2:=HXO.out.1.c256;omega
 have hjo:=tJoint Wf C2 C2 x x hTB.at' hTB.at' hxc hxc
 rw [HJ.out] at hjo
 have Hjo:=Lib.hid hjo
 have hJk:JS.Ok 256 J:=by rw [← HJ.out];exact jointK_ok _ _ 256 (Nat.le_refl _)
 have hJne:1≤J.bs.length:=by rw [← HJ.out];exact jointK_ne _ _ 255
 have HJk:=Lib.hid hJk
 have HJne:=Lib.hid hJne
 have HTB:=Lib.hid hTB
 clear hxc hjo hJk hJne hTB
 go_wp2_with ((with_reducible refine load_agg (f:=oV) (l:=L2) (C:=C2) hA3 (.tmp 4) ?_ ?_ xb 0 ?_ hsf.at HL2.out ?_);rfl;rfl;rfl)
 refine Hjo.out.mono ?_
 rintro e Wg ⟨pj,cj,rfl,hOj,hBg⟩
 have hAJ:AggT Tryz.prog 152 J.cell.length:=by rw [HJk.out.cl];exact agg256
 have hzl:J.cell.length=(List.replicate 256 0).length:=by rw [HJk.out.cl,List.length_replicate]
 have rc:=row256 (w:=Wg) rfl
 go_upto_region 5 with (first
  | ((with_reducible refine alloc_big (t:=152) z256 zero256 ?_ ?_ Wg.heap.size ?_ ?_);rfl;rfl;rfl)
  | ((with_reducible refine store_agg (f:=nV) (l:=List.replicate 256 0) (l':=J.cell) (t:=152) (C:=cellA J.cell) hAJ (.tmp 5) (.tmp 22) ?_ ?_ Wg.heap.size ?_ rfl ?_ rc hzl nV_one ?_);rfl;rfl;rfl;rfl;(intro Wh hsh hGh hzh)))
 have hbA:Below Wg.heap.size Wg (Wg.alloc (.cells z256 152)):=(Below.refl _ _).alloc (Nat.le_refl _) _
 have hbH:Below Wg.heap.size Wg Wh:=hbA.grown hGh (by rw [World.size_alloc];omega) (fun k e=>by injection e with e;omega)
 have hBh:Below Wf.heap.size Wf Wh:=hBg.trans (hbH.mono hBg.size)
 have hTBh:=HTB.out.below hBh
 have hRh:=hRf.below hBh hRf.lt
 have hBwh:Below tb w Wh:=hBwf.trans (hBh.mono (by have:=hRf.lt;omega))
 have hOh:=(hOj.below' hbH).rd
 have hsh2:=hsh
 have hRhl:=hRh.lt
 clear hsf hDf hRf hRb hBw hBwf hOj hBg rc hGh hzh hbA hbH hBh
 obtain ⟨cb,Hcb⟩:∃b,Hid (Wg.heap.size=b):=⟨_,Lib.hid rfl⟩
 rw [Hcb.out] at hsh ⊢
 clear Hcb hsh2
 clear Wg
 have hBs:∀c∈J.bs,c<256:=fun c hc=>HJk.out.bb c hc
 have hcb:∀c∈J.cell,c<J.bs.length:=fun c hc=>by
  have h1:=HJk.out.cb c hc
  have h2:=HJk.out.bl
  have h3:=HJne.out
  omega
 have hNx:NxC Wh 231 #[.pointer (some ⟨xb,0,none⟩)] okSx J.bs (starN x):=⟨fun args w=>by kernel_rfl,fun X hX s _ c hc=>starNext X xb C2 x L2 (hTBh.below hX) HXO.out.1 HXO.out.2 s c (hBs c hc)⟩
 have hAc:AcC Wh 232 #[.pointer (some ⟨xb,0,none⟩)] okSx (fun s=>s.1==1 || x.some s.2.2):=⟨fun args w=>by kernel_rfl,fun X hX s _=>starAcc X xb C2 x L2 (hTBh.below hX) HXO.out.1 HXO.out.2 s⟩
 have hex:=tExplore Wh (cellA J.cell) J.cell rfl HJk.out.cl _ J.bs hOh HJk.out.le okSx (1,0,1) ⟨by decide,by decide⟩ (fun _ h=>h) (starN x) (fun s=>s.1==1 || x.some s.2.2) (fun s _ c _=>by obtain ⟨h1,h2⟩:=tstar_sx x s c;exact ⟨by rw [h1];decide,by rw [h2];decide⟩) _ _ _ _ hNx hAc 4096 4096 (by decide) (by decide) (fun l h=>h.le) (by decide)
 have hse:expl J.cell J.bs (1,0,1) (starN x) (fun s=>s.1==1 || x.some s.2.2) 4096 4096=starT x:=by unfold starT;rw [HJ.out]
 obtain ⟨S,HS0⟩:∃S,Hid (starT x=S):=⟨_,Lib.hid rfl⟩
 rw [HS0.out] at hse
 rw [hse] at hex
 have Hse:=Lib.hid hse
 have Hex:=Lib.hid hex
 have HBs:=Lib.hid hBs
 have Hcb:=Lib.hid hcb
 clear hNx hAc hex hse hBs hcb hOh hTBh
 have h1k:Array.foldl (fun (cs:Array Value) (x:Value×Nat)=>cs.setIfInBounds (2+x.snd) x.fst) #[Value.int .i64 1,Value.int .i64 0,Value.int .u64 0] #[Value.int .u64 1].zipIdx 0 1=sxA (1,0,1):=rfl
 go_wp2_with ((with_reducible refine load_agg (f:=nV) (l:=J.cell) (C:=cellA J.cell) hAJ (.tmp 5) ?_ ?_ cb 0 ?_ hsh.at rfl ?_);rfl;rfl;rfl)
 refine Hex.out.mono ?_
 rintro e Wi ⟨hBi,hE⟩
 have hRi:=hRh.below hBi hRhl
 have hBwi:Below tb w Wi:=hBwh.trans (hBi.mono (by omega))
 have hRil:=hRi.lt
 have HSt:Hid (D.star=limO S):=Lib.hid (by unfold DF.star;rw [Hx.out,HS0.out])
 have hz4:Row oV (Wi.alloc (.cells zTb 166)) Wi.heap.size 166 (tbL ⟨List.replicate 256 0,0,[],[]⟩ on on):=Row.new _ _ rfl
 have hbA:Below Wi.heap.size Wi (Wi.alloc (.cells zTb 166)):=(Below.refl _ _).alloc (Nat.le_refl _) _
 have hs8:(Wi.alloc (.cells zTb 166)).heap.size=Wi.heap.size+1:=World.size_alloc _ _
 clear Hex hBi hRh hBwh hsh h1k
 have hATz:AggT Tryz.prog 166 (tbL ⟨List.replicate 256 0,0,[],[]⟩ on on).length:=by rw [tbL_length _ _ (by simp)];exact aggTb
 cases hsT:S with
 | none=>
  rw [hsT] at hE
  have HE2:Hid (D.star= .error 2):=Lib.hid (by rw [HSt.out,hsT];rfl)
  cases hE
  clear hsT
  go_wp2_with (first
   | ((with_reducible refine alloc_big (t:=166) zTb zeroTb ?_ ?_ Wi.heap.size ?_ ?_);rfl;rfl;rfl)
   | ((with_reducible refine store_agg (f:=oV) (l:=tbL ⟨List.replicate 256 0,0,[],[]⟩ on on) (l':=tbL ⟨List.replicate 256 0,0,[],[]⟩ on on) (t:=166) (C:=zTb) hATz (.tmp 8) (.tmp 33) ?_ ?_ Wi.heap.size ?_ rfl ?_ hz4 rfl oV_one ?_);rfl;rfl;rfl;rfl;(intro Wj hsj hGj hzj);(have hbJ:Below Wi.heap.size Wi Wj:=hbA.grown hGj (by omega) (fun k e=>by injection e with e;omega));(have hRj:=hRi.below hbJ hRil))
   | ((with_reducible refine store_agg (f:=oV) (l:=[on,on,on]) (l':=[on,on,on]) (t:=79) (C:= #[.slice none 0 0, .slice none 0 0, .slice none 0 0]) aggD (.tmp 2) (.tmp 37) ?_ ?_ (tb+1) ?_ ?_ ?_ hRj ?_ oV_one ?_);rfl;rfl;rfl;rfl;rfl;rfl;(intro W9 hs9 hG9 hz9)))
  have hBf:Below tb w W9:=(hBwi.trans (hbJ.mono (by omega))).grown hG9 (by have:=hRj.lt;omega) (fun k e=>by injection e with e;omega)
  refine bodyPost_ret (v:= .tuple #[.agg #[.slice none 0 0, .slice none 0 0, .slice none 0 0], .int .i64 2]) (results_agg2 (f:=oV) (l:=[on,on,on]) (t:=3) rfl _ aggD (tb+1) 0 rfl hs9.at) rfl ?_
  exact ⟨_,rfl,by rw [HE2.out];rfl,by rw [Htb.out];exact hBf⟩
 | some T=>
  rw [hsT] at hE
  have HE2:Hid (D.star=lim T):=Lib.hid (by rw [HSt.out,hsT];rfl)
  have HTO:Hid T.Ok:=Lib.hid (by
   have h:=Hse.out.trans hsT
   exact expl_ok (ok:=okSx) (K:=4096) ⟨by decide,by decide⟩ (by decide) (fun s _ c _=>by obtain ⟨h1,h2⟩:=tstar_sx x s c;exact ⟨by rw [h1];decide,by rw [h2];decide⟩) (fun l h=>h.le) (by decide) HJk.out.cl HJk.out.le Hcb.out h)
  obtain ⟨C5,rfl,hC5⟩:∃C,e= .returned (.tuple #[.agg C, .bool true])∧TbAt Wi C T:=by
   obtain ⟨tn,ta,h1,h2,h3⟩:=hE
   exact ⟨_,h1,tn,ta,rfl,(h2 _ (KeepT.refl _)).1,(h2 _ (KeepT.refl _)).2,h3⟩
  obtain ⟨L5,hL5,hl5⟩:=hC5.list
  have HL5:=Lib.hid hL5
  have hA5:AggT Tryz.prog 166 L5.length:=by rw [hl5];exact aggTb
  have hLz5:L5.length=(tbL ⟨List.replicate 256 0,0,[],[]⟩ on on).length:=by rw [hl5,tbL_length _ _ (by simp)]
  have HC5:=Lib.hid hC5
  clear hL5 hl5 hC5 hsT
  go_wp2_with (first
   | ((with_reducible refine alloc_big (t:=166) zTb zeroTb ?_ ?_ Wi.heap.size ?_ ?_);rfl;rfl;rfl)
   | ((with_reducible refine store_agg (f:=oV) (l:=tbL ⟨List.replicate 256 0,0,[],[]⟩ on on) (l':=L5) (t:=166) (C:=C5) hA5 (.tmp 8) (.tmp 33) ?_ ?_ Wi.heap.size ?_ HL5.out ?_ hz4 hLz5 oV_one ?_);rfl;rfl;rfl;rfl;(intro Wj hsj hGj hzj);(have hbJ:Below Wi.heap.size Wi Wj:=hbA.grown hGj (by omega) (fun k e=>by injection e with e;omega));(have hRj:=hRi.below hbJ hRil))
   | ((with_reducible refine load_agg (f:=oV) (l:=L5) (C:=C5) hA5 (.tmp 8) ?_ ?_ Wi.heap.size 0 ?_ hsj.at HL5.out ?_);rfl;rfl;rfl))
  refine (tLim Wj C5 T (HC5.out.below hbJ) HTO.out).mono ?_
  rintro e Wk ⟨v2,rfl,hv2,hBk⟩
  have hRjl:=hRj.lt
  have hRk:=hRj.below hBk hRjl
  have hBwk:Below tb w Wk:=(hBwi.trans (hbJ.mono (by omega))).trans (hBk.mono (by omega))
  obtain ⟨R,HR0⟩:∃R,Hid (lim T=R):=⟨_,Lib.hid rfl⟩
  rw [HR0.out] at hv2
  have HE3:Hid (D.star=R):=Lib.hid (HE2.out.trans HR0.out)
  clear hbJ hsj hGj hzj hBk hRj hz4 hbA
  cases hds:R with
  | error n=>
   rw [hds] at hv2
   have HDS:Hid (D.star= .error n):=Lib.hid (HE3.out.trans hds)
   cases hv2
   clear hds
   go_wp2_with ((with_reducible refine store_agg (f:=oV) (l:=[on,on,on]) (l':=[on,on,on]) (t:=79) (C:= #[.slice none 0 0, .slice none 0 0, .slice none 0 0]) aggD (.tmp 2) (.tmp 40) ?_ ?_ (tb+1) ?_ ?_ ?_ hRk ?_ oV_one ?_);rfl;rfl;rfl;rfl;rfl;rfl;(intro W9 hs9 hG9 hz9))
   have hBf:Below tb w W9:=hBwk.grown hG9 (by have:=hRk.lt;omega) (fun k e=>by injection e with e;omega)
   refine bodyPost_ret (v:= .tuple #[.agg #[.slice none 0 0, .slice none 0 0, .slice none 0 0], .int .i64 (n:Int)]) (results_agg2 (f:=oV) (l:=[on,on,on]) (t:=3) rfl _ aggD (tb+1) 0 rfl hs9.at) rfl ?_
   exact ⟨_,rfl,by rw [HDS.out];rfl,by rw [Htb.out];exact hBf⟩
  | ok E=>
   rw [hds] at hv2
   have HDS:Hid (D.star= .ok E):=Lib.hid (HE3.out.trans hds)
   have HEO:Hid E.Ok:=Lib.hid (by
    have h:lim T= .ok E:=HR0.out.trans hds
    unfold lim at h
    split at h
    ·injection h with h;rw [← h];exact HTO.out.canon.1
    ·cases h)
   obtain ⟨u,rfl,hu⟩:=hv2
   obtain ⟨q1,j1,q2,j2,q3,j3,rfl⟩:=hu.parts
   have HU:=Lib.hid hu
   obtain ⟨m1,Hm1⟩:∃n,Hid (E.cls.length=n):=⟨_,Lib.hid rfl⟩
   obtain ⟨m2,Hm2⟩:∃n,Hid (E.nx.length=n):=⟨_,Lib.hid rfl⟩
   obtain ⟨m3,Hm3⟩:∃n,Hid (E.ac.length=n):=⟨_,Lib.hid rfl⟩
   rw [Hm1.out,Hm2.out,Hm3.out] at HU ⊢
   clear hds hu
   go_wp2_with ((with_reducible refine store_agg (f:=oV) (l:=[on,on,on]) (l':=slO3 q1 m1 j1 q2 m2 j2 q3 m3 j3) (t:=79) (C:= #[.slice q1 m1 j1, .slice q2 m2 j2, .slice q3 m3 j3]) aggD (.tmp 2) (.tmp 40) ?_ ?_ (tb+1) ?_ ?_ ?_ hRk ?_ oV_one ?_);rfl;rfl;rfl;rfl;rfl;rfl;(intro W9 hs9 hG9 hz9))
   have hBf:Below tb w W9:=hBwk.grown hG9 (by have:=hRk.lt;omega) (fun k e=>by injection e with e;omega)
   refine bodyPost_ret (v:= .tuple #[.agg #[.slice q1 m1 j1, .slice q2 m2 j2, .slice q3 m3 j3], .int .i64 0]) (results_agg2 (f:=oV) (l:=slO3 q1 m1 j1 q2 m2 j2 q3 m3 j3) (t:=3) rfl _ aggD (tb+1) 0 rfl hs9.at) rfl ?_
   refine ⟨_,rfl,?_,by rw [Htb.out];exact hBf⟩
   rw [HDS.out]
   exact ⟨_,rfl,HU.out.avoid HEO.out hRk hG9⟩
end Go.Proofs.YtncnfncglacheaaGreatDoor
namespace Go.Proofs.YtncnfncglacheaaGreatDoor
open Go Go.RowKit Mem
set_option maxRecDepth 100000
set_option maxHeartbeats 16000000
structure TbQ (w:World) (b:Nat) (T:TB) (vn va:OC):Prop where
 row:Row oV w b 166 (tbL T vn va)
 h1:RdNN w vn.1 T.nx
 h2:Rd Value.bool w va.1 T.ac
 cl:T.cell.length=256
theorem TbQ.below {w w':World} {b:Nat} {T:TB} {vn va:OC} (h:TbQ w b T vn va) (hb:Below w.heap.size w w'):TbQ w' b T vn va:=⟨h.row.below hb h.row.lt,RdNN.below' h.h1 hb,h.h2.below hb,h.cl⟩
theorem TbQ.tbB {w:World} {b:Nat} {T:TB} {vn va:OC} (h:TbQ w b T vn va):TbB w b ((tbL T vn va).map oV).toArray T (tbL T vn va):=⟨h.row,rfl,⟨vn,va,rfl,h.h1,h.h2,h.cl⟩,tbL_length _ _ h.cl⟩
theorem TbQ.ac {w:World} {b:Nat} {T:TB} {vn va:OC} (h:TbQ w b T vn va):w.cell? ⟨b,258,none⟩=some va.1:=by
 rw [h.row.cell?,show 258=256+2 from rfl,tbL_hi _ _ h.cl];rfl
theorem TbQ.nx {w:World} {b:Nat} {T:TB} {vn va:OC} (h:TbQ w b T vn va):w.cell? ⟨b,257,none⟩=some vn.1:=by
 rw [h.row.cell?,show 257=256+1 from rfl,tbL_hi _ _ h.cl];rfl
theorem TbQ.c {w:World} {b:Nat} {T:TB} {vn va:OC} (h:TbQ w b T vn va) (i:Nat) (hi:i<256):w.cell? ⟨b,i,none⟩=some (.int .i64 (T.cell.getD i 0:Nat)):=by
 rw [h.row.cell?,tbL_cell vn va (by rw [h.cl];exact hi)];rfl
theorem catEnter (w:World) (xb:Nat) (x:TB) (vn va:OC) (hQ:TbQ w xb x vn va) (hx:x.Ok) (s:Sx) (hs:s.1<x.nx.length):
  Calls Tryz.prog 181 #[.agg (sxA s), .pointer (some ⟨xb,0,none⟩)] w fun e w'=>e= .returned (.agg (sxA (catE x s)))∧Below w.heap.size w w':=by
 have hs0:Row oV (w.alloc (.cells (sxA s) 286)) w.heap.size 286 (sxL s):=Row.new _ _ (congrArg (fun C=>Obj.cells C 286) (sxL_A s))
 go_enter Tryz.func181,Tryz.ntmps181
 go_upto_region 1 with (fail)
 have h0:=hs0.alloc (.cells #[.int .i64 0, .int .i64 0, .int .u64 0] 286)
 have s0:(w.alloc (.cells (sxA s) 286)).heap.size=w.heap.size+1:=World.size_alloc _ _
 have r0:Row oV ((w.alloc (.cells (sxA s) 286)).alloc (.cells #[.int .i64 0, .int .i64 0, .int .u64 0] 286)) (w.heap.size+1) 286 (sxL sx0):=by
  have h:=Row.new (f:=oV) (w.alloc (.cells (sxA s) 286)) (t:=286) (l:=sxL sx0) (.cells #[.int .i64 0, .int .i64 0, .int .u64 0] 286) rfl
  rwa [s0] at h
 have b0:Below w.heap.size w ((w.alloc (.cells (sxA s) 286)).alloc (.cells #[.int .i64 0, .int .i64 0, .int .u64 0] 286)):=((Below.refl _ _).alloc (Nat.le_refl _) _).alloc (by rw [s0];omega) _
 clear hs0 s0
 generalize ((w.alloc (.cells (sxA s) 286)).alloc (.cells #[.int .i64 0, .int .i64 0, .int .u64 0] 286))=W at h0 r0 b0 ⊢
 have hq:=hQ.below b0
 obtain ⟨va,hva⟩:=va
 have ca:=hq.ac
 obtain ⟨pa,ka,rfl⟩:=hQ.h2.slice
 have hal:x.ac.length=x.nx.length:=hx.ac
 obtain ⟨n,Hn⟩:∃n,Hid (x.ac.length=n):=⟨_,Lib.hid rfl⟩
 have HA:=Lib.hid hQ.h2
 have hsn:s.1<n:=by rw [← Hn.out,hal];exact hs
 rw [Hn.out] at ca HA
 obtain ⟨ab,ao,rfl,hca⟩:=rdB_at HA.out s.1 hsn
 have cab:=hca W b0
 have hsi:(s.1:Int)<(n:Int):=by omega
 obtain ⟨z,Hz⟩:∃z,Hid (x.ac.getD s.1 false=z):=⟨_,Lib.hid rfl⟩
 rw [Hz.out] at cab
 have HE:Hid (catE x s=if z=true then (s.1,s.2.1,s.2.2 ||| 1) else s):=Lib.hid (by unfold catE;rw [Hz.out])
 have cs0:W.cell? ⟨w.heap.size,0,none⟩=some (.int .i64 (s.1:Int)):=h0.cell? 0
 have cs2:W.cell? ⟨w.heap.size,2,none⟩=some (.int .u64 (X s.2.2)):=h0.cell? 2
 have fs2:=h0.frozen 2
 have hX:=X_nonneg s.2.2
 have hor:bits .or .u64 (X s.2.2) 1=X (s.2.2 ||| 1):=X_or s.2.2 1
 have hrl:=r0.lt
 clear hca hq hQ hs hal hsn
 cases z with
 | false=>
  have HN2:=HE.out
  rw [if_neg (by decide)] at HN2
  have HN2:=Lib.hid HN2
  clear HE hor
  go_wp2_with (first
   | ((with_reducible refine zL h0.at aggS (sxL_A _) ?_))
   | ((with_reducible refine store_agg (f:=oV) (l:=sxL sx0) (l':=sxL s) (t:=286) (C:=sxA s) aggS (.tmp 3) (.tmp 16) ?_ ?_ (w.heap.size+1) ?_ (sxL_A _) ?_ r0 rfl oV_one ?_);rfl;rfl;rfl;rfl;(intro W9 hs9 hG9 hz9)))
  have hBf:=b0.grown hG9 b0.size (fun k e=>by injection e with e;omega)
  refine bodyPost_ret (results_agg (f:=oV) (l:=sxL s) rfl _ aggS (w.heap.size+1) 0 rfl hs9.at) rfl ?_
  exact ⟨rfl,hBf⟩
 | true=>
  have HN2:=HE.out
  rw [if_pos rfl] at HN2
  have HN2:=Lib.hid HN2
  clear HE
  obtain ⟨o1,Ho1⟩:∃o,Hid (s.2.2 ||| 1=o):=⟨_,Lib.hid rfl⟩
  rw [Ho1.out] at hor HN2
  have hs5:Row oV (W.setCell ⟨w.heap.size,2,none⟩ (.int .u64 (X o1))) w.heap.size 286 (sxL (s.1,s.2.1,o1)):=h0.set 2 (ow (X o1))
  have hg5:=grown_cell W w.heap.size 2 (.int .u64 (X o1))
  have r5:=r0.grown hg5 (by simp)
  have b5:=b0.grown hg5 b0.size (fun k e=>by injection e with e;omega)
  clear hg5
  go_wp2_with (first
   | ((with_reducible refine zL hs5.at aggS (sxL_A _) ?_))
   | ((with_reducible refine store_agg (f:=oV) (l:=sxL sx0) (l':=sxL (s.1,s.2.1,o1)) (t:=286) (C:=sxA (s.1,s.2.1,o1)) aggS (.tmp 3) (.tmp 16) ?_ ?_ (w.heap.size+1) ?_ (sxL_A _) ?_ r5 rfl oV_one ?_);rfl;rfl;rfl;rfl;(intro W9 hs9 hG9 hz9)))
  have hBf:=b5.grown hG9 b5.size (fun k e=>by injection e with e;omega)
  refine bodyPost_ret (results_agg (f:=oV) (l:=sxL (s.1,s.2.1,o1)) rfl _ aggS (w.heap.size+1) 0 rfl hs9.at) rfl ?_
  exact ⟨by rw [Ho1.out];rfl,hBf⟩
theorem catAcc (w:World) (yb:Nat) (y:TB) (vn va:OC) (hQ:TbQ w yb y vn va) (hy:y.Ok) (h64:y.nx.length≤64) (s:Sx):
  Calls Tryz.prog 185 #[.agg (sxA s), .pointer (some ⟨yb,0,none⟩)] w fun e w'=>e= .returned (.bool (y.some s.2.2))∧Below w.heap.size w w':=by
 have hB:=hQ.tbB
 generalize tbL y vn va=L at hB
 obtain ⟨C,HC⟩:∃C,Hid (C=(L.map oV).toArray):=⟨_,Lib.hid rfl⟩
 rw [← HC.out] at hB
 have hA3:AggT Tryz.prog 166 L.length:=by rw [hB.len];exact aggTb
 have hs0:Row oV (w.alloc (.cells (sxA s) 286)) w.heap.size 286 (sxL s):=Row.new _ _ (congrArg (fun C=>Obj.cells C 286) (sxL_A s))
 have b0:Below w.heap.size w (w.alloc (.cells (sxA s) 286)):=(Below.refl _ _).alloc (Nat.le_refl _) _
 have hB1:=hB.below b0
 go_enter Tryz.func185,Tryz.ntmps185
 go_upto_region 1 with (fail)
 generalize (w.alloc (.cells (sxA s) 286))=W at hs0 b0 hB1 ⊢
 have ha:=sx_at hs0
 have hb1r:=hB1.row.at
 have hcl:=tSome W C y hB1.at' hy h64 s.2.2
 obtain ⟨z,Hz⟩:∃z,Hid (y.some s.2.2=z):=⟨_,Lib.hid rfl⟩
 rw [Hz.out] at hcl
 have Hcl:=Lib.hid hcl
 clear hcl hB hB1 hs0 hQ
 go_wp2_with (first
  | ((with_reducible refine zL hb1r hA3 HC.out ?_))
  | ((with_reducible refine zL ha aggSet (set_list _) ?_)))
 refine Hcl.out.mono ?_
 rintro e W4 ⟨rfl,hB4⟩
 go_wp2_with fail
 go_ret
 exact ⟨by rw [Hz.out];rfl,b0.trans (hB4.mono b0.size)⟩
theorem catNext (w:World) (eb xb yb:Nat) (x y:TB) (vn va un ua:OC) (hE:∀X,Below w.heap.size w X→X.cell? ⟨eb,0,none⟩=some (.func (.func 181) #[] #[.pointer (some ⟨xb,0,none⟩)])) (hQ:TbQ w xb x vn va) (hP:TbQ w yb y un ua) (hx:x.Ok) (hy:y.Ok) (h64:y.nx.length≤64) (s:Sx) (hs:s.1<x.nx.length) (c:Nat) (hc:c<256):
  Calls Tryz.prog 182 #[.agg (sxA s), .int .i64 (c:Int), .pointer (some ⟨eb,0,none⟩), .pointer (some ⟨xb,0,none⟩), .pointer (some ⟨yb,0,none⟩)] w fun e w'=>e= .returned (.agg (sxA (catN x y s c)))∧Below w.heap.size w w':=by
 have hs0:Row oV (w.alloc (.cells (sxA s) 286)) w.heap.size 286 (sxL s):=Row.new _ _ (congrArg (fun C=>Obj.cells C 286) (sxL_A s))
 go_enter Tryz.func182,Tryz.ntmps182
 go_upto_region 1 with (fail)
 have h0:=hs0.alloc (.cells #[.int .i64 0, .int .i64 0, .int .u64 0] 286)
 have s0:(w.alloc (.cells (sxA s) 286)).heap.size=w.heap.size+1:=World.size_alloc _ _
 have r0:Row oV ((w.alloc (.cells (sxA s) 286)).alloc (.cells #[.int .i64 0, .int .i64 0, .int .u64 0] 286)) (w.heap.size+1) 286 (sxL sx0):=by
  have h:=Row.new (f:=oV) (w.alloc (.cells (sxA s) 286)) (t:=286) (l:=sxL sx0) (.cells #[.int .i64 0, .int .i64 0, .int .u64 0] 286) rfl
  rwa [s0] at h
 have b0:Below w.heap.size w ((w.alloc (.cells (sxA s) 286)).alloc (.cells #[.int .i64 0, .int .i64 0, .int .u64 0] 286)):=((Below.refl _ _).alloc (Nat.le_refl _) _).alloc (by rw [s0];omega) _
 clear hs0 s0
 generalize ((w.alloc (.cells (sxA s) 286)).alloc (.cells #[.int .i64 0, .int .i64 0, .int .u64 0] 286))=W at h0 r0 b0 ⊢
 have hq:=hQ.below b0
 have hp:=hP.below b0
 have hBW:Hid (∀X,Below W.heap.size W X→Below w.heap.size w X):=Lib.hid fun X h=>b0.trans (h.mono b0.size)
 have hW0:=h0.lt
 have k0:∀X,Below W.heap.size W X→X.cell? ⟨eb,0,none⟩=some (.func (.func 181) #[] #[.pointer (some ⟨xb,0,none⟩)]):=fun X h=>hE X (hBW.out X h)
 have k1:∀X,Below W.heap.size W X→X.cell? ⟨xb,257,none⟩=some vn.1:=fun X h=>(hq.below h).nx
 have k2:∀X,Below W.heap.size W X→X.cell? ⟨w.heap.size,0,none⟩=some (.int .i64 (s.1:Int)):=fun X h=>by rw [(h0.below h hW0).cell?];rfl
 have k3:∀X,Below W.heap.size W X→X.cell? ⟨xb,c,none⟩=some (.int .i64 (x.cell.getD c 0:Nat)):=fun X h=>(hq.below h).c c hc
 obtain ⟨vn,hvn⟩:=vn
 obtain ⟨pn,kn,rfl⟩:=hQ.h1.slice
 have hsl:s.1<x.nx.length:=hs
 obtain ⟨n,Hn⟩:∃n,Hid (x.nx.length=n):=⟨_,Lib.hid rfl⟩
 have HN:=Lib.hid hQ.h1
 rw [Hn.out] at HN k1 hs
 obtain ⟨nb,no,rq,rd,rfl, -,hnb,hcr,hrw⟩:=rows_at HN.out s.1 (by rw [Hn.out];exact hs)
 have k4:∀X,Below W.heap.size W X→X.cell? ⟨nb,no+s.1,none⟩=some (.slice rq (x.nx.getD s.1 []).length rd):=fun X h=>((hBW.out X h).cell (p:=⟨nb,no+s.1,none⟩) hnb).trans hcr
 have hrl2:(x.nx.getD s.1 []).length=x.cells:=hx.rw _ (getD_mem _ _ _ hsl)
 have hcT:x.cell.getD c 0<x.cells:=cell_lt hx c hc
 have HTO:Hid (x.to s.1 c=(x.nx.getD s.1 []).getD (x.cell.getD c 0) 0):=Lib.hid rfl
 obtain ⟨row,Hrow⟩:∃r,Hid (x.nx.getD s.1 []=r):=⟨_,Lib.hid rfl⟩
 obtain ⟨k,Hk⟩:∃c',Hid (x.cell.getD c 0=c'):=⟨_,Lib.hid rfl⟩
 rw [Hrow.out] at hrw hrl2 k4 HTO
 rw [Hk.out] at k3 hcT HTO
 obtain ⟨rn,Hrn⟩:∃r,Hid (row.length=r):=⟨_,Lib.hid rfl⟩
 have hcl:k<rn:=by rw [← Hrn.out];omega
 rw [Hrn.out] at k4 hrw
 obtain ⟨tb2,to2,rfl,hct⟩:=rdN_at hrw k hcl
 have k5:∀X,Below W.heap.size W X→X.cell? ⟨tb2,to2+k,none⟩=some (.int .i64 (row.getD k 0:Nat)):=fun X h=>hct X (hBW.out X h)
 obtain ⟨t,Ht⟩:∃t,Hid (row.getD k 0=t):=⟨_,Lib.hid rfl⟩
 rw [Ht.out] at k5 HTO
 have hsi:(s.1:Int)<(n:Int):=by omega
 have hki:(k:Int)<(rn:Int):=by omega
 have hci:(c:Int)<256:=by omega
 have hpB:=hp.tbB
 have HP:=Lib.hid hp
 have HQ:=Lib.hid hq
 have HTN:Hid (t<x.nx.length):=Lib.hid (by
  rw [← Ht.out,← Hrow.out]
  exact row_lt hx.rb s.1 _ (getD_mem _ _ _ (by rw [Hrow.out,Hrn.out];exact hcl)))
 obtain ⟨L,HL⟩:∃L,Hid (tbL y un ua=L):=⟨_,Lib.hid rfl⟩
 rw [HL.out] at hpB
 obtain ⟨C,HC⟩:∃C,Hid (C=(L.map oV).toArray):=⟨_,Lib.hid rfl⟩
 rw [← HC.out] at hpB
 have hA3:AggT Tryz.prog 166 L.length:=by rw [hpB.len];exact aggTb
 have HPB:=Lib.hid hpB
 clear hcr hrw hct hpB hp hq hQ hP hnb
 refine region_headsT (S:=fun X=>Below W.heap.size W X) 20 rfl (by kernel_rfl) (Below.refl _ _).drew fun hS=> ?_
 refine tk 0 8 (.func (.func 181) #[] #[.pointer (some ⟨xb,0,none⟩)]) hS ?_ rfl (qi fun W' h=>by have q0:=k0 W' h;go_simp)
 refine tk 1 9 (.pointer (some ⟨xb,257,none⟩)) hS ?_
 refine tk 2 10 (.slice (some ⟨nb,no,none⟩) n kn) hS ?_ rfl (qi fun W' h=>by have q0:=k1 W' h;go_simp)
 refine tk 3 11 (.pointer (some ⟨w.heap.size,0,none⟩)) hS ?_
 refine tk 4 12 (.int .i64 (s.1:Int)) hS ?_ rfl (qi fun W' h=>by have q0:=k2 W' h;go_simp)
 refine tk 5 13 (.pointer (some ⟨nb,no+s.1,none⟩)) hS ?_ rfl yg
 refine tk 6 14 (.slice (some ⟨tb2,to2,none⟩) rn rd) hS ?_ rfl (qi fun W' h=>by have q0:=k4 W' h;go_simp)
 refine tk 7 15 (.int .i64 (c:Int)) hS ?_
 refine tk 8 16 (.pointer (some ⟨xb,0,none⟩)) hS ?_
 refine tk 9 17 (.pointer (some ⟨xb,c,none⟩)) hS ?_ rfl yg
 refine tk 10 18 (.int .i64 (k:Int)) hS ?_ rfl (qi fun W' h=>by have q0:=k3 W' h;go_simp)
 refine tk 11 19 (.pointer (some ⟨tb2,to2+k,none⟩)) hS ?_ rfl yg
 refine tk 12 20 (.int .i64 (t:Int)) hS ?_ rfl (qi fun W' h=>by have q0:=k5 W' h;go_simp)
 refine tk 13 21 (.agg C) hS ?_ rfl (yieldsIf_load (f:=oV) (l:=L) hA3 (.tmp 4) rfl yb 0 rfl (fun W' h=>(HPB.out.below h).row.at) HC.out rfl)
 refine tk 14 22 (.pointer (some ⟨w.heap.size,2,none⟩)) hS ?_
 refine tk 15 23 (.agg (setA s.2.2)) hS ?_ rfl (yieldsIf_load (f:=oV) (l:=[ow (X s.2.2)]) aggSet (.tmp 22) rfl w.heap.size 2 rfl (fun W' h=>sx_at (h0.below h hW0)) (set_list _) rfl)
 refine tk 16 24 (.int .i64 (c:Int)) hS ?_
 refine rdT 17 (fun K' hK=> ?_)
 refine cD 25 183 #[.agg C, .agg (setA s.2.2), .int .i64 (c:Int)] ?_
 refine (tTargets W.drew C y (HPB.out.below hS).at' hy h64 s.2.2 c hc).mono ?_
 rintro e Wa ⟨rfl,hBa⟩
 obtain ⟨o,Ho⟩:∃o,Hid (y.targets s.2.2 c=o):=⟨_,Lib.hid rfl⟩
 rw [Ho.out]
 have hSa:=hS.trans (hBa.mono hS.size)
 refine ⟨_,rfl,hK.out _ _ hSa fun _=> ?_⟩
 clear hK hBa hS
 have hS:=hSa
 simp only [sA,sB,sC]
 refine tk 18 26 (.agg (sxA (t,0,o))) hS ?_ rfl (yo fun w=>by kernel_rfl)
 refine rdT 19 (fun K' hK=> ?_)
 refine cD 27 181 #[.agg (sxA (t,0,o)), .pointer (some ⟨xb,0,none⟩)] ?_
 refine (catEnter Wa xb x _ va (HQ.out.below hS) hx (t,0,o) HTN.out).mono ?_
 rintro e Wb ⟨rfl,hBb⟩
 have hSb:=hS.trans (hBb.mono hS.size)
 refine ⟨_,rfl,hK.out _ _ hSb fun _=> ?_⟩
 have HE:Hid (catN x y s c=catE x (t,0,o)):=Lib.hid (by unfold catN;rw [HTO.out,Ho.out])
 obtain ⟨u,Hu⟩:∃u,Hid (catE x (t,0,o)=u):=⟨_,Lib.hid rfl⟩
 rw [Hu.out] at HE ⊢
 clear hK hBb hS hSa k0 k1 k2 k3 k4 k5 hE
 simp only [sA,sB,sC]
 refine headsT_tail (by kernel_rfl) ?_
 simp only [List.drop]
 have hr2:=r0.below hSb r0.lt
 have hBf0:=hBW.out Wb hSb
 go_wp2_with ((with_reducible refine store_agg (f:=oV) (l:=sxL sx0) (l':=sxL u) (t:=286) (C:=sxA u) aggS (.tmp 7) (.tmp 27) ?_ ?_ (w.heap.size+1) ?_ (sxL_A _) ?_ hr2 rfl oV_one ?_);rfl;rfl;rfl;rfl;(intro W9 hs9 hG9 hz9))
 have hBf:=hBf0.grown hG9 hBf0.size (fun k e=>by injection e with e;omega)
 refine bodyPost_ret (results_agg (f:=oV) (l:=sxL u) rfl _ aggS (w.heap.size+1) 0 rfl hs9.at) rfl ?_
 exact ⟨by rw [HE.out];rfl,hBf⟩
end Go.Proofs.YtncnfncglacheaaGreatDoor
namespace Go.Proofs.YtncnfncglacheaaGreatDoor
open Go Go.RowKit Mem
set_option maxRecDepth 100000
set_option maxHeartbeats 16000000
theorem DfS.tbS {w:World} {vc:Value} {vn va:OC} {D:DF} (h:DfS w (.agg #[vc,vn.1,va.1]) D):TbS w vn va (tabOf D):=fun X hX=>by
 obtain ⟨vc',vn',va',heq,h1,h2,h3⟩:=h X hX
 simp only [Value.agg.injEq,Array.mk.injEq,List.cons.injEq,and_true] at heq
 obtain ⟨rfl,rfl,rfl⟩:=heq
 exact ⟨h2,h3⟩
theorem DfAt.ocs {w:World} {v:Value} {D:DF} (h:DfAt w v D):∃(vc vn va:OC),v= .agg #[vc.1,vn.1,va.1]:=by
 obtain ⟨p1,k1,p2,k2,p3,k3,rfl⟩:=h.parts
 exact ⟨⟨.slice p1 D.cls.length k1,rfl⟩,⟨.slice p2 D.nx.length k2,rfl⟩,⟨.slice p3 D.ac.length k3,rfl⟩,rfl⟩
theorem TbS.q {w:World} {b:Nat} {vn va:OC} {T:TB} (h:TbS w vn va T) (hr:Row oV w b 166 (tbL T vn va)) (hc:T.cell.length=256):TbQ w b T vn va:=⟨hr,(h w (KeepT.refl w)).1,(h w (KeepT.refl w)).2,hc⟩
def PhC (n0:Nat) (va vb:Value) (an aa bn ba:OC) (A B:DF) (i:Nat) (v:Value) (w:World):Prop:=match i with
 | 0=>v=va
 | 1=>v= .agg ((tbL (tabOf A) an aa).map oV).toArray
 | 2=>DfS w v (tabOf A).canon
 | 3=>∃vn va:OC,v= .agg ((tbL (catX A) vn va).map oV).toArray∧TbS w vn va (catX A)
 | 4=>v=vb
 | 5=>v= .agg ((tbL (tabOf B) bn ba).map oV).toArray
 | 6=>DfS w v (tabOf B).canon
 | 7=>∃vn va:OC,v= .agg ((tbL (catX B) vn va).map oV).toArray∧TbS w vn va (catX B)
 | 8=>∃(p:Nat) (L:List OC),v= .pointer (some ⟨p,0,none⟩)∧n0≤p∧L.length=259∧Row oV w p 166 L
 | 9=>∃p:Nat,v= .pointer (some ⟨p,0,none⟩)∧n0≤p∧Row oV w p 166 (tbL ⟨List.replicate 256 0,0,[],[]⟩ on on)
 | 10=>∃(p:Nat) (vn va:OC),v= .pointer (some ⟨p,0,none⟩)∧n0≤p∧TbS w vn va (catX A)∧Row oV w p 166 (tbL (catX A) vn va)
 | _=>True
def PsC (i j:Nat) (v u:Value):Prop:=(i=8→j=9→v≠u)∧(i=8→j=10→v=u)
theorem psC_triv {i:Nat} (h:i≠8∧i≠9∧i≠10) (j:Nat) (v u:Value):PsC i j v u∧PsC j i u v:=⟨⟨fun e=>absurd e h.1,fun e=>absurd e h.1⟩,⟨fun _ e=>absurd e h.2.1,fun _ e=>absurd e h.2.2⟩⟩
theorem phC_below {n0:Nat} {va vb:Value} {an aa bn ba:OC} {A B:DF} {i:Nat} {v:Value} {w w':World} (h:PhC n0 va vb an aa bn ba A B i v w) (hb:Below w.heap.size w w'):PhC n0 va vb an aa bn ba A B i v w':=by
 have hk:=KeepT.of_below hb
 match i,h with
 | 0,h=>exact h
 | 1,h=>exact h
 | 2,h=>exact DfS.keep h hk
 | 3,⟨vn,va,h1,h2⟩=>exact ⟨vn,va,h1,h2.keep hk⟩
 | 4,h=>exact h
 | 5,h=>exact h
 | 6,h=>exact DfS.keep h hk
 | 7,⟨vn,va,h1,h2⟩=>exact ⟨vn,va,h1,h2.keep hk⟩
 | 8,⟨p,L,h1,h2,h3,h4⟩=>exact ⟨p,L,h1,h2,h3,h4.below hb h4.lt⟩
 | 9,⟨p,h1,h2,h3⟩=>exact ⟨p,h1,h2,h3.below hb h3.lt⟩
 | 10,⟨p,vn,va,h1,h2,h3,h4⟩=>exact ⟨p,vn,va,h1,h2,h3.keep hk,h4.below hb h4.lt⟩
 | _+11,_=>trivial
theorem DfAt.tbAt {w:World} {vc vn va:OC} {D:DF} (h:DfAt w (.agg #[vc.1,vn.1,va.1]) D):TbAt w ((tbL (tabOf D) vn va).map oV).toArray (tabOf D):=by
 obtain ⟨vc',vn',va',heq,h1,h2,h3⟩:=h
 simp only [Value.agg.injEq,Array.mk.injEq,List.cons.injEq,and_true] at heq
 obtain ⟨rfl,rfl,rfl⟩:=heq
 exact ⟨vn,va,rfl,h2,h3,cellK_length D.cls D.cls.length⟩
section
variable {P:Program} {α:Type} {f:α→Value} {lv l':List α} {o:Oper} {a:Act} {w:World} {K:Act→World→Prop} {Q:Exit→Act→World→Prop}
theorem free_store {ty t:TypeId} (T:AggT P ty l'.length) (x y:Operand) (ho:o.op= .store ty x y) (b:Nat) (hx:a.eval x= .pointer (some ⟨b,0,none⟩)) {C:Array Value} (hC:C=(l'.map f).toArray) (hy:a.eval y= .agg C) (h:Row f w b t lv) (hl:l'.length=lv.length) (h1:∀x,(f x).oneCell'=true)
  (hk:∀w',Row f w' b t l'→w.grownBy w' (some b)→w'.heap.size=w.heap.size→K (a.put o.dst undef) w'):o.wp P a w K Q:=by
 subst hC
 obtain ⟨w',hr,h2,h3,h4⟩:=run_store_agg T h hl h1
 unfold Oper.wp execOp
 simp only [ho,hx,hy,Instr.storeAt,Instr.sureAddr,Sem.run_bind,Sem.run_pure,Result.andThen_ok,hr]
 exact hk w' h2 h3 h4
end
theorem list11c {α:Type} (l:List α) (h:l.length=11):∃a b c d e f g i j k m,l=[a,b,c,d,e,f,g,i,j,k,m]:=by
 match l,h with
 | [a,b,c,d,e,f,g,i,j,k,m],_=>exact ⟨a,b,c,d,e,f,g,i,j,k,m,rfl⟩
abbrev zT:TB:=⟨List.replicate 256 0,0,[],[]⟩
theorem exRes_uni {w:World} {e:Ending} {S:Option TB} (h:ExRes w e S):∃tn ta:OC,e= .returned (.tuple #[.agg ((tbL (S.getD zT) tn ta).map oV).toArray, .bool S.isSome])∧TbS w tn ta (S.getD zT)∧(S.getD zT).cell.length=256:=by
 cases S with
 | none=>exact ⟨on,on,h,fun X _=>⟨.inl ⟨none,rfl,rfl⟩, .inl ⟨none,rfl,rfl⟩⟩,by simp⟩
 | some T=>
  obtain ⟨tn,ta,h1,h2,h3⟩:=h
  exact ⟨tn,ta,h1,h2,h3⟩
theorem TB.Ok.to_lt {T:TB} (h:T.Ok) {s c:Nat} (hs:s<T.nx.length) (hc:c<256):T.to s c<T.nx.length:=by
 have h1:=h.rw _ (getD_mem T.nx s [] hs)
 have h2:=cell_lt h c hc
 exact row_lt h.rb s _ (getD_mem _ _ 0 (by rw [h1];exact h2))
theorem catE_keeps (x:TB) (s:Sx):(catE x s).1=s.1∧(catE x s).2.1=s.2.1:=by
 unfold catE;split<;>exact ⟨rfl,rfl⟩
def PhE (n0:Nat) (J:JS) (vj:Value) (pa pb eb:Nat) (x:TB) (T0:TB) (b0:Bool) (i:Nat) (v:Value) (w:World):Prop:=match i with
 | 0=>v= .agg (cellA J.cell)
 | 1=>v=vj
 | 2=>v= .func (.func 181) #[] #[.pointer (some ⟨pa,0,none⟩)]
 | 3=>v= .agg (sxA sx0)
 | 4=>v= .agg (sxA (catE x sx0))
 | 5=>v= .func (.func 182) #[] #[.pointer (some ⟨eb,0,none⟩), .pointer (some ⟨pa,0,none⟩), .pointer (some ⟨pb,0,none⟩)]
 | 6=>v= .func (.func 185) #[] #[.pointer (some ⟨pb,0,none⟩)]
 | 7=>∃tn ta:OC,v= .tuple #[.agg ((tbL T0 tn ta).map oV).toArray, .bool b0]∧TbS w tn ta T0
 | 8=>∃tn ta:OC,v= .tuple #[.agg ((tbL T0 tn ta).map oV).toArray, .bool b0]∧TbS w tn ta T0
 | 9=>∃tn ta:OC,v= .agg ((tbL T0 tn ta).map oV).toArray∧TbS w tn ta T0
 | 10=>v= .bool b0
 | 11=>∃(p:Nat) (L:List OC),v= .pointer (some ⟨p,0,none⟩)∧n0≤p∧L.length=259∧Row oV w p 166 L
 | 12=>∃(p:Nat) (tn ta:OC),v= .pointer (some ⟨p,0,none⟩)∧n0≤p∧TbS w tn ta T0∧Row oV w p 166 (tbL T0 tn ta)
 | _=>True
def PsE (i j:Nat) (v u:Value):Prop:=i=11→j=12→v=u
theorem psE_triv {i:Nat} (h:i≠11∧i≠12) (j:Nat) (v u:Value):PsE i j v u∧PsE j i u v:=⟨fun e=>absurd e h.1,fun _ e=>absurd e h.2⟩
theorem phE_below {n0:Nat} {J:JS} {vj:Value} {pa pb eb:Nat} {x T0:TB} {b0:Bool} {i:Nat} {v:Value} {w w':World} (h:PhE n0 J vj pa pb eb x T0 b0 i v w) (hb:Below w.heap.size w w'):PhE n0 J vj pa pb eb x T0 b0 i v w':=by
 have hk:=KeepT.of_below hb
 match i,h with
 | 0,h=>exact h
 | 1,h=>exact h
 | 2,h=>exact h
 | 3,h=>exact h
 | 4,h=>exact h
 | 5,h=>exact h
 | 6,h=>exact h
 | 7,⟨vn,va,h1,h2⟩=>exact ⟨vn,va,h1,h2.keep hk⟩
 | 8,⟨vn,va,h1,h2⟩=>exact ⟨vn,va,h1,h2.keep hk⟩
 | 9,⟨vn,va,h1,h2⟩=>exact ⟨vn,va,h1,h2.keep hk⟩
 | 10,h=>exact h
 | 11,⟨p,L,h1,h2,h3,h4⟩=>exact ⟨p,L,h1,h2,h3,h4.below hb h4.lt⟩
 | 12,⟨p,vn,va,h1,h2,h3,h4⟩=>exact ⟨p,vn,va,h1,h2,h3.keep hk,h4.below hb h4.lt⟩
 | _+13,_=>trivial
theorem list13 {α:Type} (l:List α) (h:l.length=13):∃a b c d e f g i j k m n o,l=[a,b,c,d,e,f,g,i,j,k,m,n,o]:=by
 match l,h with
 | [a,b,c,d,e,f,g,i,j,k,m,n,o],_=>exact ⟨a,b,c,d,e,f,g,i,j,k,m,n,o,rfl⟩
theorem tConcat (w:World) (va vb:Value) (A B:DF) (hva:DfAt w va A) (hvb:DfAt w vb B) (hA:A.V) (hB:B.V) (hTab:Tab w) (htl:1<w.heap.size):
  Calls Tryz.prog 137 #[va,vb] w fun e w'=>∃v,e= .returned v∧DfRes w' v (A.cat B)∧Below w.heap.size w w':=by
 have HVA:=Lib.hid hA
 have HVB:=Lib.hid hB
 have HTab:=Lib.hid hTab
 have Htl:=Lib.hid htl
 have HAA:=Lib.hid hva
 have HBB:=Lib.hid hvb
 obtain ⟨ac,an,aa,rfl⟩:=hva.ocs
 obtain ⟨bc,bn,ba,rfl⟩:=hvb.ocs
 obtain ⟨LA,HLA⟩:∃L:List OC,Hid (L=[ac,an,aa]):=⟨_,Lib.hid rfl⟩
 obtain ⟨LB,HLB⟩:∃L:List OC,Hid (L=[bc,bn,ba]):=⟨_,Lib.hid rfl⟩
 obtain ⟨CA,HCA⟩:∃C,Hid (C=(LA.map oV).toArray):=⟨_,Lib.hid rfl⟩
 obtain ⟨CB,HCB⟩:∃C,Hid (C=(LB.map oV).toArray):=⟨_,Lib.hid rfl⟩
 have hca: #[ac.1,an.1,aa.1]=CA:=by rw [HCA.out,HLA.out];rfl
 have hcb: #[bc.1,bn.1,ba.1]=CB:=by rw [HCB.out,HLB.out];rfl
 have Hca:=Lib.hid hca
 have Hcb:=Lib.hid hcb
 rw [hca] at HAA ⊢
 rw [hcb] at HBB ⊢
 have hla:LA.length=3:=by rw [HLA.out];rfl
 have hlb:LB.length=3:=by rw [HLB.out];rfl
 have hTA:AggT Tryz.prog 79 LA.length:=by rw [hla];exact aggD
 have hTB:AggT Tryz.prog 79 LB.length:=by rw [hlb];exact aggD
 have rA0:Row oV (w.alloc (.cells CA 79)) w.heap.size 79 LA:=Row.new _ _ (by rw [HCA.out])
 have s0:(w.alloc (.cells CA 79)).heap.size=w.heap.size+1:=World.size_alloc _ _
 have rB0:Row oV ((w.alloc (.cells CA 79)).alloc (.cells CB 79)) (w.heap.size+1) 79 LB:=by
  have h:=Row.new (f:=oV) (w.alloc (.cells CA 79)) (t:=79) (l:=LB) (.cells CB 79) (by rw [HCB.out])
  rwa [s0] at h
 have s1:((w.alloc (.cells CA 79)).alloc (.cells CB 79)).heap.size=w.heap.size+2:=by rw [World.size_alloc,s0]
 have rR0:Row oV (((w.alloc (.cells CA 79)).alloc (.cells CB 79)).alloc (.cells #[.slice none 0 0, .slice none 0 0, .slice none 0 0] 79)) (w.heap.size+2) 79 [on,on,on]:=by
  have h:=Row.new (f:=oV) ((w.alloc (.cells CA 79)).alloc (.cells CB 79)) (t:=79) (l:=[on,on,on]) (.cells #[.slice none 0 0, .slice none 0 0, .slice none 0 0] 79) rfl
  rwa [s1] at h
 have b0:Below w.heap.size w (((w.alloc (.cells CA 79)).alloc (.cells CB 79)).alloc (.cells #[.slice none 0 0, .slice none 0 0, .slice none 0 0] 79)):=(((Below.refl _ _).alloc (Nat.le_refl _) _).alloc (by rw [s0];omega) _).alloc (by rw [s1];omega) _
 have rA1:=(rA0.alloc (.cells CB 79)).alloc (.cells #[.slice none 0 0, .slice none 0 0, .slice none 0 0] 79)
 have rB1:=rB0.alloc (.cells #[.slice none 0 0, .slice none 0 0, .slice none 0 0] 79)
 clear hva hvb hA hB hTab htl hca hcb hla hlb rA0 rB0
 go_enter Tryz.func137,Tryz.ntmps137
 go_upto_region 1 with (fail)
 generalize (((w.alloc (.cells CA 79)).alloc (.cells CB 79)).alloc (.cells #[.slice none 0 0, .slice none 0 0, .slice none 0 0] 79))=W at rA1 rB1 rR0 b0 ⊢
 clear s0 s1
 obtain ⟨tb,Htb⟩:∃tb,Hid (w.heap.size=tb):=⟨_,Lib.hid rfl⟩
 have hvalA:=dValid W _ A (HAA.out.below b0) HVA.out
 have HvalA:=Lib.hid hvalA
 have HAW:=Lib.hid (HAA.out.below b0)
 have HBW:=Lib.hid (HBB.out.below b0)
 rw [Htb.out] at b0 rA1 rB1 rR0 ⊢
 clear hvalA
 go_wp2_with ((with_reducible refine zL rA1.at hTA HCA.out ?_))
 refine HvalA.out.mono ?_
 rintro e Wa ⟨rfl,hBa⟩
 have rBl:=rB1.lt
 have rAa:=rA1.below hBa rA1.lt
 have rBa:=rB1.below hBa rBl
 have rRa:=rR0.below hBa rR0.lt
 have bA:Below tb w Wa:=b0.trans (hBa.mono (by omega))
 have HAa:=Lib.hid (HAW.out.below hBa)
 have HBa:=Lib.hid (HBW.out.below hBa)
 have hvalB:=dValid Wa _ B HBa.out HVB.out
 have HvalB:=Lib.hid hvalB
 clear hvalB rA1 rB1 rR0 b0 HvalA hBa rBl HAW HBW
 go_wp2_with ((with_reducible refine load_agg_g (f:=oV) (l:=LB) (C:=CB) hTB (.tmp 3) ?_ ?_ (tb+1) 0 ?_ rBa.at HCB.out ?_);rfl;rfl;rfl)
 refine HvalB.out.mono ?_
 rintro e Wb ⟨rfl,hBb⟩
 have rBl:=rBa.lt
 have rRl:=rRa.lt
 have rA:=rAa.below hBb rAa.lt
 have rB:=rBa.below hBb rBl
 have rR:=rRa.below hBb rRl
 have bB:Below tb w Wb:=bA.trans (hBb.mono (by omega))
 have HAb:=Lib.hid (HAa.out.below hBb)
 have HBb:=Lib.hid (HBa.out.below hBb)
 clear HvalB rAa rBa rRa bA hBb rBl rRl HAa HBa
 go_upto_region 3 with (fail)
 have HTabB:Hid (∀X,Below Wb.heap.size Wb X→Tab X):=Lib.hid fun X h=>(HTab.out.below (B:=w.heap.size) (by rw [Htb.out];exact bB) Htl.out).below h (Nat.lt_of_lt_of_le Htl.out (by have:=bB.size;exact this))
 have HOA:=Lib.hid (tabOf_ok HVA.out.toOk)
 have HOB:=Lib.hid (tabOf_ok HVB.out.toOk)
 obtain ⟨n0,Hn0⟩:∃n,Hid (Wb.heap.size=n):=⟨_,Lib.hid rfl⟩
 have HXA:=Lib.hid (catX_ok HVA.out)
 have HXB:=Lib.hid (catX_ok HVB.out)
 refine region_free3 11 [some 23,some 24,some 25,some 26,some 27,some 28,some 29,some 30,some 6,some 7,none] (fun _ X=>Below Wb.heap.size Wb X) (PhC Wb.heap.size (.agg CA) (.agg CB) an aa bn ba A B) PsC rfl (by kernel_rfl) (by kernel_rfl) (Below.refl _ _).drew ?_ ?_
 ·intro i o hi ho a X dn val hK hd hdn hG
  have hst:∀{i:Nat} {v:Value} {X':World},i≠8∧i≠9∧i≠10→Below X.heap.size X X'→∀j,j<11→j≠i→dn j=true→PhC Wb.heap.size (.agg CA) (.agg CB) an aa bn ba A B j (val j) X'∧PsC i j v (val j)∧PsC j i (val j) v:=fun h hb j hj _ hdj=>⟨phC_below (hK.got j hj hdj) hb,psC_triv h j _ _⟩
  have hDA:=HAb.out.below hG
  have hDB:=HBb.out.below hG
  match i,hi,ho with
  | 0,_,ho=>
   obtain rfl:=Option.some.inj ho
   exact free_load (f:=oV) (lv:=LA) hTA (.tmp 2) rfl tb 0 (by show a.tmps.getD 2 undef=_;rw [hK.old 2 (by decide)];rfl) (rA.below hG rA.lt).at HCA.out ⟨_,rfl,hG,rfl,hst (by decide) (Below.refl _ _)⟩
  | 1,_,ho=>
   obtain rfl:=Option.some.inj ho
   have e0:a.eval (.tmp 23)= .agg #[ac.1,an.1,aa.1]:=by
    show a.tmps.getD 23 undef=_
    rw [hK.slot 0 (by decide) (hd 0 (by kernel_rfl)) 23 rfl,Hca.out];exact hK.got 0 (by decide) (hd 0 (by kernel_rfl))
   refine free_call rfl (g:=70) (args:= #[a.eval (.tmp 23)]) (by first | rfl | kernel_rfl) ?_
   rw [e0]
   refine (dTableT X ac.1 an aa A (by rw [Hca.out];exact hDA) HVA.out.c256 (HTabB.out X hG)).mono ?_
   rintro e X' ⟨rfl,hb⟩
   exact ⟨_,rfl,_,rfl,hG.trans (hb.mono hG.size),rfl,hst (by decide) hb⟩
  | 2,_,ho=>
   obtain rfl:=Option.some.inj ho
   have e0:a.eval (.tmp 24)= .agg ((tbL (tabOf A) an aa).map oV).toArray:=by
    show a.tmps.getD 24 undef=_
    rw [hK.slot 1 (by decide) (hd 1 (by kernel_rfl)) 24 rfl];exact hK.got 1 (by decide) (hd 1 (by kernel_rfl))
   refine free_call rfl (g:=177) (args:= #[a.eval (.tmp 24)]) (by first | rfl | kernel_rfl) ?_
   rw [e0]
   refine (tCanonS X _ (tabOf A) (DfAt.tbAt (vc:=ac) (by rw [Hca.out];exact hDA)) HOA.out).mono ?_
   rintro e X' ⟨v,rfl,hv,hb⟩
   exact ⟨_,rfl,_,rfl,hG.trans (hb.mono hG.size),hv,hst (by decide) hb⟩
  | 3,_,ho=>
   obtain rfl:=Option.some.inj ho
   have h2:DfS X (val 2) (tabOf A).canon:=hK.got 2 (by decide) (hd 2 (by kernel_rfl))
   obtain ⟨vc,vn,va,hv⟩:=(h2 X (KeepT.refl X)).ocs
   rw [hv] at h2
   have e0:a.eval (.tmp 25)= .agg #[vc.1,vn.1,va.1]:=by
    show a.tmps.getD 25 undef=_
    rw [hK.slot 2 (by decide) (hd 2 (by kernel_rfl)) 25 rfl,hv]
   refine free_call rfl (g:=70) (args:= #[a.eval (.tmp 25)]) (by first | rfl | kernel_rfl) ?_
   rw [e0]
   refine (dTableT X vc.1 vn va (tabOf A).canon (h2 X (KeepT.refl X)) HOA.out.canon.1.c256 (HTabB.out X hG)).mono ?_
   rintro e X' ⟨rfl,hb⟩
   exact ⟨_,rfl,_,rfl,hG.trans (hb.mono hG.size),⟨vn,va,rfl,(DfS.tbS h2).keep (KeepT.of_below hb)⟩,hst (by decide) hb⟩
  | 4,_,ho=>
   obtain rfl:=Option.some.inj ho
   exact free_load (f:=oV) (lv:=LB) hTB (.tmp 3) rfl (tb+1) 0 (by show a.tmps.getD 3 undef=_;rw [hK.old 3 (by decide)];rfl) (rB.below hG rB.lt).at HCB.out ⟨_,rfl,hG,rfl,hst (by decide) (Below.refl _ _)⟩
  | 5,_,ho=>
   obtain rfl:=Option.some.inj ho
   have e0:a.eval (.tmp 27)= .agg #[bc.1,bn.1,ba.1]:=by
    show a.tmps.getD 27 undef=_
    rw [hK.slot 4 (by decide) (hd 4 (by kernel_rfl)) 27 rfl,Hcb.out];exact hK.got 4 (by decide) (hd 4 (by kernel_rfl))
   refine free_call rfl (g:=70) (args:= #[a.eval (.tmp 27)]) (by first | rfl | kernel_rfl) ?_
   rw [e0]
   refine (dTableT X bc.1 bn ba B (by rw [Hcb.out];exact hDB) HVB.out.c256 (HTabB.out X hG)).mono ?_
   rintro e X' ⟨rfl,hb⟩
   exact ⟨_,rfl,_,rfl,hG.trans (hb.mono hG.size),rfl,hst (by decide) hb⟩
  | 6,_,ho=>
   obtain rfl:=Option.some.inj ho
   have e0:a.eval (.tmp 28)= .agg ((tbL (tabOf B) bn ba).map oV).toArray:=by
    show a.tmps.getD 28 undef=_
    rw [hK.slot 5 (by decide) (hd 5 (by kernel_rfl)) 28 rfl];exact hK.got 5 (by decide) (hd 5 (by kernel_rfl))
   refine free_call rfl (g:=177) (args:= #[a.eval (.tmp 28)]) (by first | rfl | kernel_rfl) ?_
   rw [e0]
   refine (tCanonS X _ (tabOf B) (DfAt.tbAt (vc:=bc) (by rw [Hcb.out];exact hDB)) HOB.out).mono ?_
   rintro e X' ⟨v,rfl,hv,hb⟩
   exact ⟨_,rfl,_,rfl,hG.trans (hb.mono hG.size),hv,hst (by decide) hb⟩
  | 7,_,ho=>
   obtain rfl:=Option.some.inj ho
   have h2:DfS X (val 6) (tabOf B).canon:=hK.got 6 (by decide) (hd 6 (by kernel_rfl))
   obtain ⟨vc,vn,va,hv⟩:=(h2 X (KeepT.refl X)).ocs
   rw [hv] at h2
   have e0:a.eval (.tmp 29)= .agg #[vc.1,vn.1,va.1]:=by
    show a.tmps.getD 29 undef=_
    rw [hK.slot 6 (by decide) (hd 6 (by kernel_rfl)) 29 rfl,hv]
   refine free_call rfl (g:=70) (args:= #[a.eval (.tmp 29)]) (by first | rfl | kernel_rfl) ?_
   rw [e0]
   refine (dTableT X vc.1 vn va (tabOf B).canon (h2 X (KeepT.refl X)) HOB.out.canon.1.c256 (HTabB.out X hG)).mono ?_
   rintro e X' ⟨rfl,hb⟩
   exact ⟨_,rfl,_,rfl,hG.trans (hb.mono hG.size),⟨vn,va,rfl,(DfS.tbS h2).keep (KeepT.of_below hb)⟩,hst (by decide) hb⟩
  | 8,_,ho=>
   obtain rfl:=Option.some.inj ho
   have hb:Below X.heap.size X (X.alloc (.cells zTb 166)):=(Below.refl _ _).alloc (Nat.le_refl _) _
   refine free_value (v:= .pointer (some ⟨X.heap.size,0,none⟩)) (w':=X.alloc (.cells zTb 166)) (by kernel_rfl) ⟨_,rfl,hG.trans (hb.mono hG.size),⟨X.heap.size,tbL ⟨List.replicate 256 0,0,[],[]⟩ on on,rfl,hG.size,tbL_length _ _ (by simp),Row.new _ _ rfl⟩,?_⟩
   intro j hj hji hdj
   refine ⟨phC_below (hK.got j hj hdj) hb,⟨fun _ e=> ?_,fun _ e=> ?_⟩,⟨fun _ e=>(by cases e),fun _ e=>(by cases e)⟩⟩
   ·subst e
    obtain ⟨p,h1,_,h3⟩:=hK.got 9 (by decide) hdj
    rw [h1]
    intro e
    injection e with e
    injection e with e
    injection e with e
    have:=h3.lt
    omega
   ·subst e
    have:=hK.clo 10 _ (by decide) rfl hdj 8 (by kernel_rfl)
    rw [hdn] at this
    cases this
  | 9,_,ho=>
   obtain rfl:=Option.some.inj ho
   have hb:Below X.heap.size X (X.alloc (.cells zTb 166)):=(Below.refl _ _).alloc (Nat.le_refl _) _
   refine free_value (v:= .pointer (some ⟨X.heap.size,0,none⟩)) (w':=X.alloc (.cells zTb 166)) (by kernel_rfl) ⟨_,rfl,hG.trans (hb.mono hG.size),⟨X.heap.size,rfl,hG.size,Row.new _ _ rfl⟩,?_⟩
   intro j hj hji hdj
   refine ⟨phC_below (hK.got j hj hdj) hb,⟨fun e=>(by cases e),fun e=>(by cases e)⟩,⟨fun e _=> ?_,fun _ e=>(by cases e)⟩⟩
   subst e
   obtain ⟨p,L,h1,_,_,h3⟩:=hK.got 8 (by decide) hdj
   rw [h1]
   intro e
   injection e with e
   injection e with e
   injection e with e
   have:=h3.lt
   omega
  | 10,_,ho=>
   obtain rfl:=Option.some.inj ho
   obtain ⟨p,L,h1,hp0,hL,hr⟩:=hK.got 8 (by decide) (hd 8 (by kernel_rfl))
   obtain ⟨vn,va,h3,h4⟩:=hK.got 3 (by decide) (hd 3 (by kernel_rfl))
   have e6:a.eval (.tmp 6)= .pointer (some ⟨p,0,none⟩):=by
    show a.tmps.getD 6 undef=_
    rw [hK.slot 8 (by decide) (hd 8 (by kernel_rfl)) 6 rfl,h1]
   have e26:a.eval (.tmp 26)= .agg ((tbL (catX A) vn va).map oV).toArray:=by
    show a.tmps.getD 26 undef=_
    rw [hK.slot 3 (by decide) (hd 3 (by kernel_rfl)) 26 rfl,h3]
   have hl:(tbL (catX A) vn va).length=259:=tbL_length _ _ HXA.out.1.cl
   refine free_store (f:=oV) (lv:=L) (l':=tbL (catX A) vn va) (ty:=166) (t:=166) (by rw [hl];exact aggTb) (.tmp 6) (.tmp 26) rfl p e6 rfl e26 hr (by rw [hl,hL]) oV_one ?_
   intro X' hr' hGr hz'
   have hk:=KeepT.of_grown hr hGr
   have hbG:Below Wb.heap.size Wb X':=hG.grown hGr hG.size (fun k e=>by injection e with e;omega)
   refine ⟨.pointer (some ⟨p,0,none⟩),rfl,hbG,⟨p,vn,va,rfl,hp0,h4.keep hk,hr'⟩,?_⟩
   intro j hj hji hdj
   refine ⟨?_,⟨fun e=>(by cases e),fun e=>(by cases e)⟩,⟨fun _ e=>(by cases e),fun e _=>(by subst e;exact h1)⟩⟩
   have hgj:=hK.got j hj hdj
   match j,hj,hji,hdj,hgj with
   | 0,_,_,_,h=>exact h
   | 1,_,_,_,h=>exact h
   | 2,_,_,_,h=>exact DfS.keep h hk
   | 3,_,_,_,⟨un,ua,g1,g2⟩=>exact ⟨un,ua,g1,g2.keep hk⟩
   | 4,_,_,_,h=>exact h
   | 5,_,_,_,h=>exact h
   | 6,_,_,_,h=>exact DfS.keep h hk
   | 7,_,_,_,⟨un,ua,g1,g2⟩=>exact ⟨un,ua,g1,g2.keep hk⟩
   | 8,_,_,_,_=>exact ⟨p,tbL (catX A) vn va,h1,hp0,hl,hr'⟩
   | 9,_,_,hd9,⟨q,g1,g2,g3⟩=>
    refine ⟨q,g1,g2,g3.grown hGr (fun e=> ?_)⟩
    injection e with e
    exact (hK.two 8 9 (by decide) (by decide) (by decide) (hd 8 (by kernel_rfl)) hd9).1 rfl rfl (by rw [h1,g1,e])
   | 10,_,hne,_,_=>exact absurd rfl hne
 intro vs X dn hvl hPh hPs _ hG
 obtain ⟨v0,v1,v2,v3,v4,v5,v6,v7,v8,v9,v10,rfl⟩:=list11c vs hvl
 obtain ⟨yn,ya,hv7,hy⟩:PhC Wb.heap.size (.agg CA) (.agg CB) an aa bn ba A B 7 v7 X:=hPh 7 (by decide)
 obtain ⟨pb,hv9,hpb,hrb⟩:PhC Wb.heap.size (.agg CA) (.agg CB) an aa bn ba A B 9 v9 X:=hPh 9 (by decide)
 obtain ⟨pa,xn,xa,hv10,hpa,hx,hra⟩:PhC Wb.heap.size (.agg CA) (.agg CB) an aa bn ba A B 10 v10 X:=hPh 10 (by decide)
 have hv8:v8=v10:=(hPs 8 10 (by decide) (by decide) (by decide)).2 rfl rfl
 have hne:v8≠v9:=(hPs 8 9 (by decide) (by decide) (by decide)).1 rfl rfl
 rw [hv8,hv10,hv9] at hne
 have hab:pa≠pb:=fun e=>hne (by rw [e])
 subst hv8
 subst hv7 hv9 hv10
 have Hab:=Lib.hid hab
 clear hPh hPs hvl hne hab
 obtain ⟨x,Hx⟩:∃x,Hid (catX A=x):=⟨_,Lib.hid rfl⟩
 obtain ⟨y,Hy⟩:∃x,Hid (catX B=x):=⟨_,Lib.hid rfl⟩
 rw [Hx.out] at hx hra HXA
 rw [Hy.out] at hy HXB ⊢
 have hcx:x.cell.length=256:=HXA.out.1.cl
 have hcy:y.cell.length=256:=HXB.out.1.cl
 obtain ⟨LX,HLX⟩:∃L,Hid (tbL x xn xa=L):=⟨_,Lib.hid rfl⟩
 obtain ⟨LY,HLY⟩:∃L,Hid (tbL y yn ya=L):=⟨_,Lib.hid rfl⟩
 have hlx:LX.length=259:=by rw [← HLX.out];exact tbL_length _ _ hcx
 have hly:LY.length=259:=by rw [← HLY.out];exact tbL_length _ _ hcy
 have hTX:AggT Tryz.prog 166 LX.length:=by rw [hlx];exact aggTb
 have hTY:AggT Tryz.prog 166 LY.length:=by rw [hly];exact aggTb
 have hLz:LY.length=(tbL ⟨List.replicate 256 0,0,[],[]⟩ on on).length:=by rw [hly,tbL_length _ _ (by simp)]
 rw [HLX.out] at hra
 rw [HLY.out]
 obtain ⟨CX,HCX⟩:∃C,Hid (C=(LX.map oV).toArray):=⟨_,Lib.hid rfl⟩
 obtain ⟨CY,HCY⟩:∃C,Hid (C=(LY.map oV).toArray):=⟨_,Lib.hid rfl⟩
 rw [← HCY.out]
 have Hcx:=Lib.hid hcx
 have Hcy:=Lib.hid hcy
 have HX0:=Lib.hid hx
 have HY0:=Lib.hid hy
 have HG0:=Lib.hid hG
 clear hcx hcy hlx hly hx hy hG
 simp only [setOpt,List.setIfInBounds_toArray,List.set_cons_succ,List.set_cons_zero,List.drop]
 go_upto_region 4 with ((with_reducible refine store_agg (f:=oV) (l:=tbL ⟨List.replicate 256 0,0,[],[]⟩ on on) (l':=LY) (t:=166) (C:=CY) hTY (.tmp 7) (.tmp 30) ?_ ?_ pb ?_ HCY.out ?_ hrb hLz oV_one ?_);rfl;rfl;rfl;rfl;(intro W4 hs4 hG4 hz4))
 have hk4:=KeepT.of_grown hrb hG4
 have hrx:=hra.grown hG4 (fun e=>by injection e with e;exact Hab.out e)
 have HQX:Hid (TbQ W4 pa x xn xa):=Lib.hid ((HX0.out.keep hk4).q (by rw [HLX.out];exact hrx) Hcx.out)
 have HQY:Hid (TbQ W4 pb y yn ya):=Lib.hid ((HY0.out.keep hk4).q (by rw [HLY.out];exact hs4) Hcy.out)
 have hB4:Below Wb.heap.size Wb W4:=HG0.out.grown hG4 HG0.out.size (fun k e=>by injection e with e;omega)
 have r4:=rR.below hB4 rR.lt
 have bw4:Below tb w W4:=bB.trans (hB4.mono (by have:=rR.lt;omega))
 have r4l:=r4.lt
 clear hk4 hra hrb hG4 hz4 HX0 HY0 HG0 hB4 hLz rA rB rR bB hpa hpb Hn0 HAb HBb
 obtain ⟨J,HJ⟩:∃J,Hid (jnt x y=J):=⟨_,Lib.hid rfl⟩
 have hxc:∀c∈x.cell,c<65536:=fun c hc=>by have h1:=HXA.out.1.cb c hc;have h2:=HXA.out.1.c256;omega
 have hyc:∀c∈y.cell,c<65536:=fun c hc=>by have h1:=HXB.out.1.cb c hc;have h2:=HXB.out.1.c256;omega
 have hjo:=tJoint W4 CX CY x y (by rw [HCX.out,← HLX.out];exact HQX.out.tbB.at') (by rw [HCY.out,← HLY.out];exact HQY.out.tbB.at') hxc hyc
 rw [HJ.out] at hjo
 have Hjo:=Lib.hid hjo
 have HJk:Hid (JS.Ok 256 J):=Lib.hid (by rw [← HJ.out];exact jointK_ok _ _ 256 (Nat.le_refl _))
 have HJne:Hid (1≤J.bs.length):=Lib.hid (by rw [← HJ.out];exact jointK_ne _ _ 255)
 clear hxc hyc hjo
 go_wp2_with (first
  | ((with_reducible refine zL hrx.at hTX HCX.out ?_))
  | ((with_reducible refine zL hs4.at hTY HCY.out ?_)))
 refine Hjo.out.mono ?_
 rintro e Wg ⟨pj,cj,rfl,hOj,hBg⟩
 have hAJ:AggT Tryz.prog 152 J.cell.length:=by rw [HJk.out.cl];exact agg256
 have hzl:J.cell.length=(List.replicate 256 0).length:=by rw [HJk.out.cl,List.length_replicate]
 have rc:=row256 (w:=Wg) rfl
 go_upto_region 5 with (first
  | ((with_reducible refine alloc_big (t:=152) z256 zero256 ?_ ?_ Wg.heap.size ?_ ?_);rfl;rfl;rfl)
  | ((with_reducible refine store_agg (f:=nV) (l:=List.replicate 256 0) (l':=J.cell) (t:=152) (C:=cellA J.cell) hAJ (.tmp 8) (.tmp 35) ?_ ?_ Wg.heap.size ?_ rfl ?_ rc hzl nV_one ?_);rfl;rfl;rfl;rfl;(intro Wh hsh hGh hzh)))
 have hbA:Below Wg.heap.size Wg (Wg.alloc (.cells z256 152)):=(Below.refl _ _).alloc (Nat.le_refl _) _
 have hbH:Below Wg.heap.size Wg Wh:=hbA.grown hGh (by rw [World.size_alloc];omega) (fun k e=>by injection e with e;omega)
 have hBh:Below W4.heap.size W4 Wh:=hBg.trans (hbH.mono hBg.size)
 have HQXh:=Lib.hid (HQX.out.below hBh)
 have HQYh:=Lib.hid (HQY.out.below hBh)
 have rH:=r4.below hBh r4l
 have bH:Below tb w Wh:=bw4.trans (hBh.mono (by omega))
 have HOh:=Lib.hid ((hOj.below' hbH).rd)
 have hshl:=hsh.lt
 have rHl:=rH.lt
 clear hs4 hrx r4 r4l bw4 hOj hBg rc hGh hzh hbA hbH hBh HQX HQY Hjo
 obtain ⟨cb,Hcb2⟩:∃b,Hid (Wg.heap.size=b):=⟨_,Lib.hid rfl⟩
 rw [Hcb2.out] at hsh hshl ⊢
 clear Hcb2
 clear Wg
 have e0:(Wh.alloc (.cells #[.nilFunc] 287)).cell? ⟨Wh.heap.size,0,none⟩=some .nilFunc:=by
  unfold World.cell?
  rw [World.alloc_heap_new];rfl
 have f0:(Wh.alloc (.cells #[.nilFunc] 287)).frozen? ⟨Wh.heap.size,0,none⟩=false:=by
  unfold World.frozen?
  rw [World.alloc_heap_new];rfl
 have hst:(Go.store ⟨Wh.heap.size,0,none⟩ (Value.func (.func 181) #[] #[.pointer (some ⟨pa,0,none⟩)])).run Tryz.prog (Wh.alloc (.cells #[.nilFunc] 287))= .ok () ((Wh.alloc (.cells #[.nilFunc] 287)).setCell ⟨Wh.heap.size,0,none⟩ (Value.func (.func 181) #[] #[.pointer (some ⟨pa,0,none⟩)])):=by
  rw [run_store _ _ _ _ _ rfl,e0];simp [f0]
 have hfE:(Wh.alloc (.cells #[Value.func (.func 181) #[] #[.pointer (some ⟨pa,0,none⟩)]] 287)).heap[Wh.heap.size]?=some (.cells #[Value.func (.func 181) #[] #[.pointer (some ⟨pa,0,none⟩)]] 287):=by
  rw [World.alloc_heap_new]
 have hbE:Below Wh.heap.size Wh (Wh.alloc (.cells #[Value.func (.func 181) #[] #[.pointer (some ⟨pa,0,none⟩)]] 287)):=(Below.refl _ _).alloc (Nat.le_refl _) _
 clear e0 f0
 go_upto_region 7 with (fail)
 clear hst
 generalize (Wh.alloc (.cells #[Value.func (.func 181) #[] #[.pointer (some ⟨pa,0,none⟩)]] 287))=Wi at hfE hbE ⊢
 have HQXi:=Lib.hid (HQXh.out.below hbE)
 have HQYi:=Lib.hid (HQYh.out.below hbE)
 have rI:=rH.below hbE rHl
 have bI:Below tb w Wi:=bH.trans (hbE.mono (by omega))
 have hcI:=hsh.below hbE hshl
 have HOi:=Lib.hid (HOh.out.below hbE)
 have hwhi:Wh.heap.size<Wi.heap.size:=(Array.getElem?_eq_some_iff.1 hfE).1
 have rIl:=rI.lt
 have hcIl:=hcI.lt
 clear HQXh HQYh rH bH hsh HOh hbE rHl hshl
 obtain ⟨eb,Heb⟩:∃b,Hid (Wh.heap.size=b):=⟨_,Lib.hid rfl⟩
 rw [Heb.out] at hfE hwhi ⊢
 clear Heb
 clear Wh
 have HFC:Hid (∀X,Below Wi.heap.size Wi X→X.cell? ⟨eb,0,none⟩=some (.func (.func 181) #[] #[.pointer (some ⟨pa,0,none⟩)])):=Lib.hid fun X h=>by
  unfold World.cell?
  rw [h.block eb hwhi,hfE];rfl
 clear hfE
 obtain ⟨S,HS0⟩:∃S,Hid (catT x y=S):=⟨_,Lib.hid rfl⟩
 have HCat:Hid (A.cat B=limO S):=Lib.hid (by unfold DF.cat;rw [Hx.out,Hy.out,HS0.out])
 have HSe:Hid (expl J.cell J.bs (catE x sx0) (catN x y) (fun s=>y.some s.2.2) 4096 4096=S):=Lib.hid (by rw [← HS0.out];unfold catT;rw [HJ.out])
 have HBs:Hid (∀c∈J.bs,c<256):=Lib.hid fun c hc=>HJk.out.bb c hc
 have HCb:Hid (∀c∈J.cell,c<J.bs.length):=Lib.hid fun c hc=>by
  have h1:=HJk.out.cb c hc
  have h2:=HJk.out.bl
  have h3:=HJne.out
  omega
 have Hn64:Hid (x.nx.length≤64∧1≤x.nx.length):=Lib.hid ⟨HXA.out.2,HXA.out.1.n1⟩
 obtain ⟨T0,HT0⟩:∃T,Hid (S.getD zT=T):=⟨_,Lib.hid rfl⟩
 obtain ⟨b0,Hb0⟩:∃b,Hid (S.isSome=b):=⟨_,Lib.hid rfl⟩
 have HTC:Hid (T0.cell.length=256):=Lib.hid (by
  rw [← HT0.out]
  cases hS:S with
  | none=>simp
  | some T=>
   have h:=HSe.out
   rw [hS] at h
   unfold expl at h
   obtain ⟨z,_,h2⟩:=Option.map_eq_some_iff.1 h
   rw [← h2]
   exact HJk.out.cl)
 refine region_free3 13 [some 40,some 41,some 42,some 43,some 44,some 45,some 46,some 47,some 39,some 48,some 49,some 12,none] (fun _ X=>Below Wi.heap.size Wi X) (PhE Wi.heap.size J (.slice pj J.bs.length cj) pa pb eb x T0 b0) PsE rfl (by kernel_rfl) (by kernel_rfl) (Below.refl _ _).drew ?_ ?_
 ·intro i o hi ho a X dn val hK hd hdn hG
  have hst:∀{i:Nat} {v:Value} {X':World},i≠11∧i≠12→Below X.heap.size X X'→∀j,j<13→j≠i→dn j=true→PhE Wi.heap.size J (.slice pj J.bs.length cj) pa pb eb x T0 b0 j (val j) X'∧PsE i j v (val j)∧PsE j i (val j) v:=fun h hb j hj _ hdj=>⟨phE_below (hK.got j hj hdj) hb,psE_triv h j _ _⟩
  match i,hi,ho with
  | 0,_,ho=>
   obtain rfl:=Option.some.inj ho
   exact free_load (f:=nV) (lv:=J.cell) hAJ (.tmp 8) rfl cb 0 (by show a.tmps.getD 8 undef=_;rw [hK.old 8 (by decide)];rfl) (hcI.below hG hcIl).at rfl ⟨_,rfl,hG,rfl,hst (by decide) (Below.refl _ _)⟩
  | 1,_,ho=>
   obtain rfl:=Option.some.inj ho
   have e0:a.eval (.tmp 9)= .slice pj J.bs.length cj:=by show a.tmps.getD 9 undef=_;rw [hK.old 9 (by decide)];rfl
   exact free_value (v:=a.eval (.tmp 9)) (w':=X) (by first | rfl | kernel_rfl) ⟨_,rfl,hG,e0,hst (by decide) (Below.refl _ _)⟩
  | 2,_,ho=>
   obtain rfl:=Option.some.inj ho
   have e0:a.eval (.tmp 10)= .pointer (some ⟨eb,0,none⟩):=by show a.tmps.getD 10 undef=_;rw [hK.old 10 (by decide)];rfl
   have hc:=HFC.out X hG
   refine free_value (v:= .func (.func 181) #[] #[.pointer (some ⟨pa,0,none⟩)]) (w':=X) ?_ ⟨_,rfl,hG,rfl,hst (by decide) (Below.refl _ _)⟩
   unfold execOp
   simp only [e0]
   go_simp
  | 3,_,ho=>
   obtain rfl:=Option.some.inj ho
   exact free_value (v:= .agg (sxA sx0)) (w':=X) (by first | rfl | kernel_rfl) ⟨_,rfl,hG,rfl,hst (by decide) (Below.refl _ _)⟩
  | 4,_,ho=>
   obtain rfl:=Option.some.inj ho
   have e2:a.eval (.tmp 42)= .func (.func 181) #[] #[.pointer (some ⟨pa,0,none⟩)]:=by
    show a.tmps.getD 42 undef=_
    rw [hK.slot 2 (by decide) (hd 2 (by kernel_rfl)) 42 rfl];exact hK.got 2 (by decide) (hd 2 (by kernel_rfl))
   have e3:a.eval (.tmp 43)= .agg (sxA sx0):=by
    show a.tmps.getD 43 undef=_
    rw [hK.slot 3 (by decide) (hd 3 (by kernel_rfl)) 43 rfl];exact hK.got 3 (by decide) (hd 3 (by kernel_rfl))
   refine free_call rfl (g:=181) (args:= #[.agg (sxA sx0), .pointer (some ⟨pa,0,none⟩)]) ?_ ?_
   ·have hen:∀(args:Array Value) (w:World),Sem.run Tryz.prog (callFunc 181 args) w= .ok (.enter 181 args) w:=fun args w=>by kernel_rfl
    simp [execOp,resolve,invoke,Deferred.ofValue,e2,e3,hen]
   refine (catEnter X pa x xn xa (HQXi.out.below hG) HXA.out.1 sx0 HXA.out.1.n1).mono ?_
   rintro e X' ⟨rfl,hb⟩
   exact ⟨_,rfl,_,rfl,hG.trans (hb.mono hG.size),rfl,hst (by decide) hb⟩
  | 5,_,ho=>
   obtain rfl:=Option.some.inj ho
   have e0:a.eval (.tmp 11)= .func (.func 182) #[] #[.pointer (some ⟨eb,0,none⟩), .pointer (some ⟨pa,0,none⟩), .pointer (some ⟨pb,0,none⟩)]:=by show a.tmps.getD 11 undef=_;rw [hK.old 11 (by decide)];rfl
   exact free_value (v:=a.eval (.tmp 11)) (w':=X) (by first | rfl | kernel_rfl) ⟨_,rfl,hG,e0,hst (by decide) (Below.refl _ _)⟩
  | 6,_,ho=>
   obtain rfl:=Option.some.inj ho
   have e0:a.eval (.tmp 7)= .pointer (some ⟨pb,0,none⟩):=by show a.tmps.getD 7 undef=_;rw [hK.old 7 (by decide)];rfl
   exact free_value (v:= .func (.func 185) #[] #[a.eval (.tmp 7)]) (w':=X) (by first | rfl | kernel_rfl) ⟨_,rfl,hG,by rw [e0];rfl,hst (by decide) (Below.refl _ _)⟩
  | 7,_,ho=>
   obtain rfl:=Option.some.inj ho
   have sl:∀i d,i<13→dn i=true→[some 40,some 41,some 42,some 43,some 44,some 45,some 46,some 47,some 39,some 48,some 49,some 12,none][i]?=some (some d)→a.eval (.tmp d)=val i:=fun i d h1 h2 h3=>hK.slot i h1 h2 d h3
   have e0:a.eval (.tmp 40)= .agg (cellA J.cell):=by rw [sl 0 40 (by decide) (hd 0 (by kernel_rfl)) rfl];exact hK.got 0 (by decide) (hd 0 (by kernel_rfl))
   have e1:a.eval (.tmp 41)= .slice pj J.bs.length cj:=by rw [sl 1 41 (by decide) (hd 1 (by kernel_rfl)) rfl];exact hK.got 1 (by decide) (hd 1 (by kernel_rfl))
   have e4:a.eval (.tmp 44)= .agg (sxA (catE x sx0)):=by rw [sl 4 44 (by decide) (hd 4 (by kernel_rfl)) rfl];exact hK.got 4 (by decide) (hd 4 (by kernel_rfl))
   have e5:a.eval (.tmp 45)= .func (.func 182) #[] #[.pointer (some ⟨eb,0,none⟩), .pointer (some ⟨pa,0,none⟩), .pointer (some ⟨pb,0,none⟩)]:=by rw [sl 5 45 (by decide) (hd 5 (by kernel_rfl)) rfl];exact hK.got 5 (by decide) (hd 5 (by kernel_rfl))
   have e6:a.eval (.tmp 46)= .func (.func 185) #[] #[.pointer (some ⟨pb,0,none⟩)]:=by rw [sl 6 46 (by decide) (hd 6 (by kernel_rfl)) rfl];exact hK.got 6 (by decide) (hd 6 (by kernel_rfl))
   refine free_call rfl (g:=184) (args:= #[a.eval (.tmp 40),a.eval (.tmp 41),a.eval (.tmp 44),a.eval (.tmp 45),a.eval (.tmp 46), .int .i64 4096]) (by first | rfl | kernel_rfl) ?_
   rw [e0,e1,e4,e5,e6]
   have hNx:NxC X 182 #[.pointer (some ⟨eb,0,none⟩), .pointer (some ⟨pa,0,none⟩), .pointer (some ⟨pb,0,none⟩)] (fun s=>s.1<x.nx.length∧s.2.1=0) J.bs (catN x y):=
    ⟨fun args w=>by kernel_rfl,fun Y hY s hs c hc=>catNext Y eb pa pb x y xn xa yn ya (fun Z hZ=>HFC.out Z ((hG.trans (hY.mono hG.size)).trans (hZ.mono (Nat.le_trans hG.size hY.size)))) (HQXi.out.below (hG.trans (hY.mono hG.size))) (HQYi.out.below (hG.trans (hY.mono hG.size))) HXA.out.1 HXB.out.1 HXB.out.2 s hs.1 c (HBs.out c hc)⟩
   have hAc:AcC X 185 #[.pointer (some ⟨pb,0,none⟩)] (fun s=>s.1<x.nx.length∧s.2.1=0) (fun s=>y.some s.2.2):=
    ⟨fun args w=>by kernel_rfl,fun Y hY s _=>catAcc Y pb y yn ya (HQYi.out.below (hG.trans (hY.mono hG.size))) HXB.out.1 HXB.out.2 s⟩
   refine (tExplore X (cellA J.cell) J.cell rfl HJk.out.cl _ J.bs (HOi.out.below hG) HJk.out.le (fun s=>s.1<x.nx.length∧s.2.1=0) (catE x sx0) ⟨by rw [(catE_keeps x sx0).1];exact HXA.out.1.n1,(catE_keeps x sx0).2⟩ (fun s h=>⟨by have:=HXA.out.2;omega,by rw [h.2];decide⟩) (catN x y) (fun s=>y.some s.2.2)
    (fun s hs c hc=>⟨by unfold catN;rw [(catE_keeps x _).1];exact HXA.out.1.to_lt hs.1 (HBs.out c hc),by unfold catN;rw [(catE_keeps x _).2]⟩) _ _ _ _ hNx hAc 4096 4096 (by decide) (by decide) (fun l h=>h.le) (by decide)).mono ?_
   rintro e X' ⟨hb,hE⟩
   rw [HSe.out] at hE
   obtain ⟨tn,ta,rfl,hS,_⟩:=exRes_uni hE
   rw [HT0.out,Hb0.out]
   rw [HT0.out] at hS
   exact ⟨_,rfl,_,rfl,hG.trans (hb.mono hG.size),⟨tn,ta,rfl,hS⟩,hst (by decide) hb⟩
  | 8,_,ho=>
   obtain rfl:=Option.some.inj ho
   have e0:a.eval (.tmp 47)=val 7:=hK.slot 7 (by decide) (hd 7 (by kernel_rfl)) 47 rfl
   exact free_value (v:=a.eval (.tmp 47)) (w':=X) (by first | rfl | kernel_rfl) ⟨_,rfl,hG,by rw [e0];exact hK.got 7 (by decide) (hd 7 (by kernel_rfl)),hst (by decide) (Below.refl _ _)⟩
  | 9,_,ho=>
   obtain rfl:=Option.some.inj ho
   obtain ⟨tn,ta,h1,h2⟩:=hK.got 8 (by decide) (hd 8 (by kernel_rfl))
   have e0:a.eval (.tmp 39)= .tuple #[.agg ((tbL T0 tn ta).map oV).toArray, .bool b0]:=(hK.slot 8 (by decide) (hd 8 (by kernel_rfl)) 39 rfl).trans h1
   refine free_value (v:= .agg ((tbL T0 tn ta).map oV).toArray) (w':=X) ?_ ⟨_,rfl,hG,⟨tn,ta,rfl,h2⟩,hst (by decide) (Below.refl _ _)⟩
   unfold execOp
   simp only [e0]
   go_simp
  | 10,_,ho=>
   obtain rfl:=Option.some.inj ho
   obtain ⟨tn,ta,h1,h2⟩:=hK.got 8 (by decide) (hd 8 (by kernel_rfl))
   have e0:a.eval (.tmp 39)= .tuple #[.agg ((tbL T0 tn ta).map oV).toArray, .bool b0]:=(hK.slot 8 (by decide) (hd 8 (by kernel_rfl)) 39 rfl).trans h1
   refine free_value (v:= .bool b0) (w':=X) ?_ ⟨_,rfl,hG,rfl,hst (by decide) (Below.refl _ _)⟩
   unfold execOp
   simp only [e0]
   go_simp
  | 11,_,ho=>
   obtain rfl:=Option.some.inj ho
   have hb:Below X.heap.size X (X.alloc (.cells zTb 166)):=(Below.refl _ _).alloc (Nat.le_refl _) _
   refine free_value (v:= .pointer (some ⟨X.heap.size,0,none⟩)) (w':=X.alloc (.cells zTb 166)) (by kernel_rfl) ⟨_,rfl,hG.trans (hb.mono hG.size),⟨X.heap.size,tbL ⟨List.replicate 256 0,0,[],[]⟩ on on,rfl,hG.size,tbL_length _ _ (by simp),Row.new _ _ rfl⟩,?_⟩
   intro j hj hji hdj
   refine ⟨phE_below (hK.got j hj hdj) hb,fun _ e=> ?_,fun _ e=>(by cases e)⟩
   subst e
   have:=hK.clo 12 _ (by decide) rfl hdj 11 (by kernel_rfl)
   rw [hdn] at this
   cases this
  | 12,_,ho=>
   obtain rfl:=Option.some.inj ho
   obtain ⟨p,L,h1,hp0,hL,hr⟩:=hK.got 11 (by decide) (hd 11 (by kernel_rfl))
   obtain ⟨vn,va,h3,h4⟩:=hK.got 9 (by decide) (hd 9 (by kernel_rfl))
   have e6:a.eval (.tmp 12)= .pointer (some ⟨p,0,none⟩):=(hK.slot 11 (by decide) (hd 11 (by kernel_rfl)) 12 rfl).trans h1
   have e26:a.eval (.tmp 48)= .agg ((tbL T0 vn va).map oV).toArray:=(hK.slot 9 (by decide) (hd 9 (by kernel_rfl)) 48 rfl).trans h3
   have hl:(tbL T0 vn va).length=259:=tbL_length _ _ HTC.out
   refine free_store (f:=oV) (lv:=L) (l':=tbL T0 vn va) (ty:=166) (t:=166) (by rw [hl];exact aggTb) (.tmp 12) (.tmp 48) rfl p e6 rfl e26 hr (by rw [hl,hL]) oV_one ?_
   intro X' hr' hGr hz'
   have hk:=KeepT.of_grown hr hGr
   have hbG:Below Wi.heap.size Wi X':=hG.grown hGr hG.size (fun k e=>by injection e with e;omega)
   refine ⟨.pointer (some ⟨p,0,none⟩),rfl,hbG,⟨p,vn,va,rfl,hp0,h4.keep hk,hr'⟩,?_⟩
   intro j hj hji hdj
   refine ⟨?_,fun e=>(by cases e),fun e _=>(by subst e;exact h1)⟩
   have hgj:=hK.got j hj hdj
   match j,hj,hji,hdj,hgj with
   | 0,_,_,_,h=>exact h
   | 1,_,_,_,h=>exact h
   | 2,_,_,_,h=>exact h
   | 3,_,_,_,h=>exact h
   | 4,_,_,_,h=>exact h
   | 5,_,_,_,h=>exact h
   | 6,_,_,_,h=>exact h
   | 7,_,_,_,⟨un,ua,g1,g2⟩=>exact ⟨un,ua,g1,g2.keep hk⟩
   | 8,_,_,_,⟨un,ua,g1,g2⟩=>exact ⟨un,ua,g1,g2.keep hk⟩
   | 9,_,_,_,⟨un,ua,g1,g2⟩=>exact ⟨un,ua,g1,g2.keep hk⟩
   | 10,_,_,_,h=>exact h
   | 11,_,_,_,_=>exact ⟨p,tbL T0 vn va,h1,hp0,hl,hr'⟩
   | 12,_,hne,_,_=>exact absurd rfl hne
 intro vs X dn hvl hPh hPs _ hG
 obtain ⟨u0,u1,u2,u3,u4,u5,u6,u7,u8,u9,u10,u11,u12,rfl⟩:=list13 vs hvl
 obtain ⟨pt,tn,ta,hv12,hpt,ht,hrt⟩:PhE Wi.heap.size J (.slice pj J.bs.length cj) pa pb eb x T0 b0 12 u12 X:=hPh 12 (by decide)
 have hv10:u10= .bool b0:=hPh 10 (by decide)
 have hv11:u11=u12:=hPs 11 12 (by decide) (by decide) (by decide) rfl rfl
 subst hv11 hv10
 subst hv12
 have rX:=rI.below hG rIl
 have bX:Below tb w X:=bI.trans (hG.mono (by omega))
 have hptX:=hrt.lt
 obtain ⟨LT,HLT⟩:∃L,Hid (tbL T0 tn ta=L):=⟨_,Lib.hid rfl⟩
 have hlt:LT.length=259:=by rw [← HLT.out];exact tbL_length _ _ HTC.out
 have hTT:AggT Tryz.prog 166 LT.length:=by rw [hlt];exact aggTb
 have HTA:Hid (TbAt X (LT.map oV).toArray T0):=Lib.hid (by rw [← HLT.out];exact ((ht.q hrt HTC.out).tbB).at')
 rw [HLT.out] at hrt
 obtain ⟨CT,HCT⟩:∃C,Hid (C=(LT.map oV).toArray):=⟨_,Lib.hid rfl⟩
 rw [← HCT.out] at HTA
 clear hPh hPs hvl ht hG rI bI hcI hlt
 simp only [setOpt,List.setIfInBounds_toArray,List.set_cons_succ,List.set_cons_zero,List.drop]
 have rXl:=rX.lt
 have hSb:=Hb0.out
 cases b0 with
 | false=>
  have HE2:Hid (A.cat B= .error 2):=Lib.hid (by
   rw [HCat.out]
   cases hS:S with
   | none=>rfl
   | some T=>rw [hS] at hSb;cases hSb)
  go_wp2_with ((with_reducible refine zS (l':=[on,on,on]) rX aggD ?_);(intro W9 hs9 hG9 hz9))
  have hBf:Below tb w W9:=bX.grown hG9 (by have:=bX.size;rw [Htb.out] at this;omega) (fun k e=>by injection e with e;omega)
  refine bodyPost_ret (v:= .tuple #[.agg #[.slice none 0 0, .slice none 0 0, .slice none 0 0], .int .i64 2]) (results_agg2 (f:=oV) (l:=[on,on,on]) (t:=5) rfl _ aggD (tb+2) 0 rfl hs9.at) rfl ?_
  exact ⟨_,rfl,by rw [HE2.out];rfl,by rw [Htb.out];exact hBf⟩
 | true=>
  have HE2:Hid (A.cat B=lim T0∧T0.Ok):=Lib.hid (by
   cases hS:S with
   | none=>rw [hS] at hSb;cases hSb
   | some T=>
    have hT:T=T0:=by rw [← HT0.out,hS];rfl
    rw [HCat.out,hS,hT]
    refine ⟨rfl,?_⟩
    have h:=HSe.out
    rw [hS,hT] at h
    exact expl_ok (ok:=fun s=>s.1<x.nx.length∧s.2.1=0) (K:=4096) ⟨by rw [(catE_keeps x sx0).1];exact HXA.out.1.n1,(catE_keeps x sx0).2⟩ (by decide) (fun s hs c hc=>⟨by unfold catN;rw [(catE_keeps x _).1];exact HXA.out.1.to_lt hs.1 (HBs.out c hc),by unfold catN;rw [(catE_keeps x _).2]⟩) (fun l h=>h.le) (by decide) HJk.out.cl HJk.out.le HCb.out h)
  clear hSb
  go_wp2_with ((with_reducible refine zL hrt.at hTT HCT.out ?_))
  refine (tLim X CT T0 HTA.out HE2.out.2).mono ?_
  rintro e Wk ⟨z2,rfl,hv2,hBk⟩
  have hRk:=rX.below hBk rXl
  have hBwk:Below tb w Wk:=bX.trans (hBk.mono (by have:=bX.size;rw [Htb.out] at this;omega))
  obtain ⟨R,HR0⟩:∃R,Hid (lim T0=R):=⟨_,Lib.hid rfl⟩
  rw [HR0.out] at hv2
  have HE3:Hid (A.cat B=R):=Lib.hid (HE2.out.1.trans HR0.out)
  clear hBk rX hrt
  cases hds:R with
  | error n=>
   rw [hds] at hv2
   have HDS:Hid (A.cat B= .error n):=Lib.hid (HE3.out.trans hds)
   cases hv2
   clear hds
   go_wp2_with ((with_reducible refine zS (l':=[on,on,on]) hRk aggD ?_);(intro W9 hs9 hG9 hz9))
   have hBf:Below tb w W9:=hBwk.grown hG9 (by have:=hRk.lt;omega) (fun k e=>by injection e with e;omega)
   refine bodyPost_ret (v:= .tuple #[.agg #[.slice none 0 0, .slice none 0 0, .slice none 0 0], .int .i64 (n:Int)]) (results_agg2 (f:=oV) (l:=[on,on,on]) (t:=5) rfl _ aggD (tb+2) 0 rfl hs9.at) rfl ?_
   exact ⟨_,rfl,by rw [HDS.out];rfl,by rw [Htb.out];exact hBf⟩
  | ok E=>
   rw [hds] at hv2
   have HDS:Hid (A.cat B= .ok E):=Lib.hid (HE3.out.trans hds)
   have HEO:Hid E.Ok:=Lib.hid (by
    have h:lim T0= .ok E:=HR0.out.trans hds
    unfold lim at h
    split at h
    ·injection h with h;rw [← h];exact HE2.out.2.canon.1
    ·cases h)
   obtain ⟨u,rfl,hu⟩:=hv2
   obtain ⟨q1,j1,q2,j2,q3,j3,rfl⟩:=hu.parts
   have HU:=Lib.hid hu
   obtain ⟨m1,Hm1⟩:∃n,Hid (E.cls.length=n):=⟨_,Lib.hid rfl⟩
   obtain ⟨m2,Hm2⟩:∃n,Hid (E.nx.length=n):=⟨_,Lib.hid rfl⟩
   obtain ⟨m3,Hm3⟩:∃n,Hid (E.ac.length=n):=⟨_,Lib.hid rfl⟩
   rw [Hm1.out,Hm2.out,Hm3.out] at HU ⊢
   clear hds hu
   go_wp2_with ((with_reducible refine zS (l':=slO3 q1 m1 j1 q2 m2 j2 q3 m3 j3) hRk aggD ?_);(intro W9 hs9 hG9 hz9))
   have hBf:Below tb w W9:=hBwk.grown hG9 (by have:=hRk.lt;omega) (fun k e=>by injection e with e;omega)
   refine bodyPost_ret (v:= .tuple #[.agg #[.slice q1 m1 j1, .slice q2 m2 j2, .slice q3 m3 j3], .int .i64 0]) (results_agg2 (f:=oV) (l:=slO3 q1 m1 j1 q2 m2 j2 q3 m3 j3) (t:=5) rfl _ aggD (tb+2) 0 rfl hs9.at) rfl ?_
   refine ⟨_,rfl,?_,by rw [Htb.out];exact hBf⟩
   rw [HDS.out]
   exact ⟨_,rfl,HU.out.avoid HEO.out hRk hG9⟩
end Go.Proofs.YtncnfncglacheaaGreatDoor
namespace Go.Proofs.YtncnfncglacheaaGreatDoor
open Go Go.RowKit Mem
set_option maxRecDepth 100000
set_option maxHeartbeats 16000000
theorem sl_cell {w:World} {b:Nat} {t:TypeId} {p1 p2 p3:Option Addr} {n1 k1 n2 k2 n3 k3:Nat} (hr:Row oV w b t (slO3 p1 n1 k1 p2 n2 k2 p3 n3 k3)) (i:Nat) (v:Value) (h:w.cell? ⟨b,i,none⟩=some v):v= .slice p1 n1 k1∨v= .slice p2 n2 k2∨v= .slice p3 n3 k3:=by
 rw [hr.cell?] at h
 match i,h with
 | 0,h=>injection h with h;exact .inl h.symm
 | 1,h=>injection h with h;exact .inr (.inl h.symm)
 | 2,h=>injection h with h;exact .inr (.inr h.symm)
 | n+3,h=>cases h
theorem rd_avoidB {α:Type} {f:α→Value} {w w':World} {v:Value} {l:List α} {b:Nat} {t:TypeId} {p1 p2 p3:Option Addr} {n1 k1 n2 k2 n3 k3:Nat} (h:Rd f w v l) (hf:∀x p n k,f x≠ .slice p n k) (hr:Row oV w b t (slO3 p1 n1 k1 p2 n2 k2 p3 n3 k3)) (hg:w.grownBy w' (some b)):Rd f w' v l:=by
 rcases h with hn | ⟨g,o,cap,rfl,hc,ha,hlt⟩
 ·exact .inl hn
 ·by_cases h0:0<l.length
  ·refine .inr ⟨g,o,cap,rfl,hc,ha.grown hg hlt (fun e=> ?_),Nat.lt_of_lt_of_le hlt hg.size⟩
   injection e with e
   subst e
   have:=ha 0 h0
   rw [List.getElem?_eq_getElem h0] at this
   rcases sl_cell hr _ _ this with h | h | h<;>exact hf _ _ _ _ h
  ·exact .inr ⟨g,o,cap,rfl,hc,fun i hi=>by omega,Nat.lt_of_lt_of_le hlt hg.size⟩
theorem rd_first {w:World} {p:Option Addr} {n k:Nat} {l:List Nat} (h:Rd nV w (.slice p n k) l) (h0:0<l.length):∃b o x,p=some ⟨b,o,none⟩∧w.cell? ⟨b,o,none⟩=some (.int .i64 x):=by
 rcases h with ⟨_,_,e⟩ | ⟨b,o,cap,e,_,ha,_⟩
 ·rw [e] at h0;cases h0
 ·injection e with e
  have:=ha 0 h0
  rw [List.getElem?_eq_getElem h0] at this
  exact ⟨b,o,_,e,this⟩
theorem DfAt.avoidB {w w':World} {v:Value} {D P:DF} {b:Nat} {t:TypeId} {p1 p2 p3:Option Addr} {n1 k1 n2 k2 n3 k3:Nat} (h:DfAt w v D) (hD:D.Ok) (hp:DfAt w (.agg #[.slice p1 n1 k1, .slice p2 n2 k2, .slice p3 n3 k3]) P) (hP:P.Ok) (hr:Row oV w b t (slO3 p1 n1 k1 p2 n2 k2 p3 n3 k3)) (hg:w.grownBy w' (some b)):DfAt w' v D:=by
 obtain ⟨vc,vn,va,rfl,h1,h2,h3⟩:=h
 refine ⟨vc,vn,va,rfl,?_,?_,rd_avoidB h3 (fun x _ _ _ e=>by cases e) hr hg⟩
 ·rcases h1 with hn | ⟨g,o,cap,rfl,hc,ha,hlt⟩
  ·exact .inl hn
  ·refine .inr ⟨g,o,cap,rfl,hc,fun i hi=>(ha i hi).grown hg hlt (fun e=> ?_),Nat.lt_of_lt_of_le hlt hg.size⟩
   injection e with e
   subst e
   have:=ha i hi 0 (by show 0<4;omega)
   rcases sl_cell hr _ _ this with h | h | h<;>cases h
 ·rcases h2 with hn | ⟨g,o,cap,rfl,hc,ha,hlt⟩
  ·exact .inl hn
  ·refine .inr ⟨g,o,cap,rfl,hc,fun i hi=> ?_,Nat.lt_of_lt_of_le hlt hg.size⟩
   obtain ⟨u,e1,e2⟩:=ha i hi
   refine ⟨u,(World.cell?_of_block (a:=⟨g,o+i,none⟩) (hg.block g hlt (fun e=> ?_))).trans e1,rd_avoidB e2 (fun x _ _ _ e=>by cases e) hr hg⟩
   injection e with e
   subst e
   have hl:=hD.rw _ (List.getElem_mem hi)
   have hc1:=hD.c1
   have h0:0<(D.nx[i]).length:=by omega
   obtain ⟨wc,wn,wa,ew,q1,q2,q3⟩:=hp
   injection ew with ew
   simp only [Array.mk.injEq,List.cons.injEq,and_true] at ew
   obtain ⟨rfl,rfl,rfl⟩:=ew
   have e3:=sl_cell hr _ _ e1
   have hpc:=hP.c1
   have hpn:=hP.n1
   have hpa:=hP.ac
   rcases e3 with rfl | rfl | rfl
   ·obtain ⟨bb,oo,x,rfl,hx⟩:=rd_first e2 h0
    rcases q1 with ⟨_,_,e⟩ | ⟨b2,o2,c2,e,_,ha2,_⟩
    ·rw [e] at hpc;exact absurd hpc (by simp)
    ·injection e with e
     injection e with e
     injection e with ea eb
     subst ea eb
     have:=ha2 0 (by omega) 0 (by show 0<4;omega)
     simp only [Nat.zero_mul,Nat.add_zero] at this
     rw [hx] at this
     cases this
   ·obtain ⟨bb,oo,x,rfl,hx⟩:=rd_first e2 h0
    rcases q2 with ⟨_,_,e⟩ | ⟨b2,o2,c2,e,_,ha2,_⟩
    ·rw [e] at hpn;exact absurd hpn (by simp)
    ·injection e with e
     injection e with e
     injection e with ea eb
     subst ea eb
     obtain ⟨u,hu1,hu2⟩:=ha2 0 (by omega)
     simp only [Nat.add_zero] at hu1
     rw [hx] at hu1
     injection hu1 with hu1
     subst hu1
     rcases hu2 with ⟨_,e,_⟩ | ⟨_,_,_,e,_⟩<;>cases e
   ·obtain ⟨bb,oo,x,rfl,hx⟩:=rd_first e2 h0
    rcases q3 with ⟨_,_,e⟩ | ⟨b2,o2,c2,e,_,ha2,_⟩
    ·rw [e] at hpa;simp at hpa;omega
    ·injection e with e
     injection e with e
     injection e with ea eb
     subst ea eb
     have h03:0<P.ac.length:=by omega
     have:=ha2 0 h03
     rw [List.getElem?_eq_getElem h03] at this
     simp only [Nat.add_zero] at this
     rw [hx] at this
     cases this
theorem pow0 (w:World) (vp vd:Value) (P D:DF) (hp:DfAt w vp P) (hd:DfAt w vd D) (hP:P.Ok):
  Calls Tryz.prog 191 #[vp,vd, .int .i64 0] w fun e w'=>∃v,e= .returned v∧DfRes w' v (.ok P)∧Below w.heap.size w w':=by
 have HPO:=Lib.hid hP
 have HE:Hid (∀(w':World) u,DfAt w' u P→DfRes w' (.tuple #[u, .int .i64 0]) (.ok P)):=Lib.hid (fun w' u h=>⟨u,rfl,h⟩)
 clear hP
 obtain ⟨p1,pk1,p2,pk2,p3,pk3,rfl⟩:=hp.parts
 obtain ⟨pn1,Hp1⟩:∃n,Hid (P.cls.length=n):=⟨_,Lib.hid rfl⟩
 obtain ⟨pn2,Hp2⟩:∃n,Hid (P.nx.length=n):=⟨_,Lib.hid rfl⟩
 obtain ⟨pn3,Hp3⟩:∃n,Hid (P.ac.length=n):=⟨_,Lib.hid rfl⟩
 rw [Hp1.out,Hp2.out,Hp3.out] at hp ⊢
 obtain ⟨d1,dk1,d2,dk2,d3,dk3,rfl⟩:=hd.parts
 obtain ⟨dn1,Hd1⟩:∃n,Hid (D.cls.length=n):=⟨_,Lib.hid rfl⟩
 obtain ⟨dn2,Hd2⟩:∃n,Hid (D.nx.length=n):=⟨_,Lib.hid rfl⟩
 obtain ⟨dn3,Hd3⟩:∃n,Hid (D.ac.length=n):=⟨_,Lib.hid rfl⟩
 rw [Hd1.out,Hd2.out,Hd3.out] at hd ⊢
 clear hd
 have HP:=Lib.hid hp
 clear hp
 obtain ⟨W,hW,hB,rp,rd,ro⟩:∃W,(((w.alloc (.cells #[.slice p1 pn1 pk1, .slice p2 pn2 pk2, .slice p3 pn3 pk3] 79)).alloc (.cells #[.slice d1 dn1 dk1, .slice d2 dn2 dk2, .slice d3 dn3 dk3] 79)).alloc (.cells #[.slice none 0 0, .slice none 0 0, .slice none 0 0] 79))=W∧Below w.heap.size w W∧Row oV W w.heap.size 79 (slO3 p1 pn1 pk1 p2 pn2 pk2 p3 pn3 pk3)∧Row oV W (w.heap.size+1) 79 (slO3 d1 dn1 dk1 d2 dn2 dk2 d3 dn3 dk3)∧Row oV W (w.heap.size+2) 79 [on,on,on]:=by
  have s1:(w.alloc (.cells #[.slice p1 pn1 pk1, .slice p2 pn2 pk2, .slice p3 pn3 pk3] 79)).heap.size=w.heap.size+1:=World.size_alloc _ _
  have s2:((w.alloc (.cells #[.slice p1 pn1 pk1, .slice p2 pn2 pk2, .slice p3 pn3 pk3] 79)).alloc (.cells #[.slice d1 dn1 dk1, .slice d2 dn2 dk2, .slice d3 dn3 dk3] 79)).heap.size=w.heap.size+2:=by rw [World.size_alloc,s1]
  have r1:Row oV (w.alloc (.cells #[.slice p1 pn1 pk1, .slice p2 pn2 pk2, .slice p3 pn3 pk3] 79)) w.heap.size 79 (slO3 p1 pn1 pk1 p2 pn2 pk2 p3 pn3 pk3):=Row.new _ _ rfl
  have r2:=Row.new (f:=oV) (w.alloc (.cells #[.slice p1 pn1 pk1, .slice p2 pn2 pk2, .slice p3 pn3 pk3] 79)) (t:=79) (l:=slO3 d1 dn1 dk1 d2 dn2 dk2 d3 dn3 dk3) (.cells #[.slice d1 dn1 dk1, .slice d2 dn2 dk2, .slice d3 dn3 dk3] 79) rfl
  have r3:=Row.new (f:=oV) ((w.alloc (.cells #[.slice p1 pn1 pk1, .slice p2 pn2 pk2, .slice p3 pn3 pk3] 79)).alloc (.cells #[.slice d1 dn1 dk1, .slice d2 dn2 dk2, .slice d3 dn3 dk3] 79)) (t:=79) (l:=[on,on,on]) (.cells #[.slice none 0 0, .slice none 0 0, .slice none 0 0] 79) rfl
  rw [s1] at r2
  rw [s2] at r3
  exact ⟨_,rfl,(((Below.refl _ _).alloc (Nat.le_refl _) _).alloc (by rw [s1];omega) _).alloc (by rw [s2];omega) _,(r1.alloc _).alloc _,r2.alloc _,r3⟩
 go_enter Tryz.func191,Tryz.ntmps191
 go_upto_region 1 with (fail)
 clear hW
 have hpl:=rp.lt
 have hol:=ro.lt
 go_wp2_with fail
 refine wp_loop_rounds 1 ?_
 refine rounds_step (n:=0) ?_
 go_wp2_with (first
  | ((with_reducible refine load_agg (f:=oV) (l:=slO3 p1 pn1 pk1 p2 pn2 pk2 p3 pn3 pk3) (C:= #[.slice p1 pn1 pk1, .slice p2 pn2 pk2, .slice p3 pn3 pk3]) aggD (.tmp 3) ?_ ?_ w.heap.size 0 ?_ rp.at ?_ ?_);rfl;rfl;rfl;rfl)
  | ((with_reducible refine store_agg (f:=oV) (l:=[on,on,on]) (l':=slO3 p1 pn1 pk1 p2 pn2 pk2 p3 pn3 pk3) (t:=79) (C:= #[.slice p1 pn1 pk1, .slice p2 pn2 pk2, .slice p3 pn3 pk3]) aggD (.tmp 6) (.tmp 23) ?_ ?_ (w.heap.size+2) ?_ ?_ ?_ ro ?_ oV_one ?_);rfl;rfl;rfl;rfl;rfl;rfl;(intro WZ hsZ hGZ hzZ)))
 refine bodyPost_ret (v:= .tuple #[.agg #[.slice p1 pn1 pk1, .slice p2 pn2 pk2, .slice p3 pn3 pk3], .int .i64 0]) (results_agg2 (f:=oV) (l:=slO3 p1 pn1 pk1 p2 pn2 pk2 p3 pn3 pk3) (t:=7) rfl _ aggD (w.heap.size+2) 0 rfl hsZ.at) rfl ?_
 exact ⟨_,rfl,HE.out _ _ ((HP.out.below hB).avoid HPO.out ro hGZ),hB.grown hGZ hB.size (fun k e=>by injection e with e;omega)⟩
theorem pow1 (w:World) (vp vd:Value) (P D R:DF) (hp:DfAt w vp P) (hd:DfAt w vd D) (hP:P.V) (hD:D.V) (hR:P.cat D= .ok R) (hRO:R.Ok) (hTab:Tab w) (htl:1<w.heap.size):
  Calls Tryz.prog 191 #[vp,vd, .int .i64 1] w fun e w'=>∃v,e= .returned v∧DfRes w' v (.ok R)∧Below w.heap.size w w':=by
 have HPO:=Lib.hid hP
 have HDO:=Lib.hid hD
 have HRO:=Lib.hid hRO
 have HR:=Lib.hid hR
 have HT:=Lib.hid hTab
 have Htl:=Lib.hid htl
 have HE:Hid (∀(w':World) u,DfAt w' u R→DfRes w' (.tuple #[u, .int .i64 0]) (.ok R)):=Lib.hid (fun w' u h=>⟨u,rfl,h⟩)
 clear hP hD hRO hR hTab htl
 obtain ⟨p1,pk1,p2,pk2,p3,pk3,rfl⟩:=hp.parts
 obtain ⟨pn1,Hp1⟩:∃n,Hid (P.cls.length=n):=⟨_,Lib.hid rfl⟩
 obtain ⟨pn2,Hp2⟩:∃n,Hid (P.nx.length=n):=⟨_,Lib.hid rfl⟩
 obtain ⟨pn3,Hp3⟩:∃n,Hid (P.ac.length=n):=⟨_,Lib.hid rfl⟩
 rw [Hp1.out,Hp2.out,Hp3.out] at hp ⊢
 obtain ⟨d1,dk1,d2,dk2,d3,dk3,rfl⟩:=hd.parts
 obtain ⟨dn1,Hd1⟩:∃n,Hid (D.cls.length=n):=⟨_,Lib.hid rfl⟩
 obtain ⟨dn2,Hd2⟩:∃n,Hid (D.nx.length=n):=⟨_,Lib.hid rfl⟩
 obtain ⟨dn3,Hd3⟩:∃n,Hid (D.ac.length=n):=⟨_,Lib.hid rfl⟩
 rw [Hd1.out,Hd2.out,Hd3.out] at hd ⊢
 have HP:=Lib.hid hp
 have HD:=Lib.hid hd
 clear hp hd
 obtain ⟨W,hW,hB,rp,rd,ro⟩:∃W,(((w.alloc (.cells #[.slice p1 pn1 pk1, .slice p2 pn2 pk2, .slice p3 pn3 pk3] 79)).alloc (.cells #[.slice d1 dn1 dk1, .slice d2 dn2 dk2, .slice d3 dn3 dk3] 79)).alloc (.cells #[.slice none 0 0, .slice none 0 0, .slice none 0 0] 79))=W∧Below w.heap.size w W∧Row oV W w.heap.size 79 (slO3 p1 pn1 pk1 p2 pn2 pk2 p3 pn3 pk3)∧Row oV W (w.heap.size+1) 79 (slO3 d1 dn1 dk1 d2 dn2 dk2 d3 dn3 dk3)∧Row oV W (w.heap.size+2) 79 [on,on,on]:=by
  have s1:(w.alloc (.cells #[.slice p1 pn1 pk1, .slice p2 pn2 pk2, .slice p3 pn3 pk3] 79)).heap.size=w.heap.size+1:=World.size_alloc _ _
  have s2:((w.alloc (.cells #[.slice p1 pn1 pk1, .slice p2 pn2 pk2, .slice p3 pn3 pk3] 79)).alloc (.cells #[.slice d1 dn1 dk1, .slice d2 dn2 dk2, .slice d3 dn3 dk3] 79)).heap.size=w.heap.size+2:=by rw [World.size_alloc,s1]
  have r1:Row oV (w.alloc (.cells #[.slice p1 pn1 pk1, .slice p2 pn2 pk2, .slice p3 pn3 pk3] 79)) w.heap.size 79 (slO3 p1 pn1 pk1 p2 pn2 pk2 p3 pn3 pk3):=Row.new _ _ rfl
  have r2:=Row.new (f:=oV) (w.alloc (.cells #[.slice p1 pn1 pk1, .slice p2 pn2 pk2, .slice p3 pn3 pk3] 79)) (t:=79) (l:=slO3 d1 dn1 dk1 d2 dn2 dk2 d3 dn3 dk3) (.cells #[.slice d1 dn1 dk1, .slice d2 dn2 dk2, .slice d3 dn3 dk3] 79) rfl
  have r3:=Row.new (f:=oV) ((w.alloc (.cells #[.slice p1 pn1 pk1, .slice p2 pn2 pk2, .slice p3 pn3 pk3] 79)).alloc (.cells #[.slice d1 dn1 dk1, .slice d2 dn2 dk2, .slice d3 dn3 dk3] 79)) (t:=79) (l:=[on,on,on]) (.cells #[.slice none 0 0, .slice none 0 0, .slice none 0 0] 79) rfl
  rw [s1] at r2
  rw [s2] at r3
  exact ⟨_,rfl,(((Below.refl _ _).alloc (Nat.le_refl _) _).alloc (by rw [s1];omega) _).alloc (by rw [s2];omega) _,(r1.alloc _).alloc _,r2.alloc _,r3⟩
 have Hcat:=Lib.hid (tConcat W _ _ P D (HP.out.below hB) (HD.out.below hB) HPO.out HDO.out (HT.out.below hB Htl.out) (Nat.lt_of_lt_of_le Htl.out hB.size))
 rw [HR.out] at Hcat
 go_enter Tryz.func191,Tryz.ntmps191
 go_upto_region 1 with (fail)
 clear hW
 have hpl:=rp.lt
 have hol:=ro.lt
 go_wp2_with fail
 refine wp_loop_rounds 2 ?_
 refine rounds_step (n:=1) ?_
 go_wp2_with (first
  | ((with_reducible refine load_agg (f:=oV) (l:=slO3 p1 pn1 pk1 p2 pn2 pk2 p3 pn3 pk3) (C:= #[.slice p1 pn1 pk1, .slice p2 pn2 pk2, .slice p3 pn3 pk3]) aggD (.tmp 3) ?_ ?_ w.heap.size 0 ?_ rp.at ?_ ?_);rfl;rfl;rfl;rfl)
  | ((with_reducible refine load_agg (f:=oV) (l:=slO3 d1 dn1 dk1 d2 dn2 dk2 d3 dn3 dk3) (C:= #[.slice d1 dn1 dk1, .slice d2 dn2 dk2, .slice d3 dn3 dk3]) aggD (.tmp 4) ?_ ?_ (w.heap.size+1) 0 ?_ rd.at ?_ ?_);rfl;rfl;rfl;rfl))
 refine Hcat.out.mono ?_
 rintro e W2 ⟨v,rfl,⟨u,rfl,hu⟩,hB2⟩
 obtain ⟨q1,qk1,q2,qk2,q3,qk3,rfl⟩:=hu.parts
 obtain ⟨qn1,Hq1⟩:∃n,Hid (R.cls.length=n):=⟨_,Lib.hid rfl⟩
 obtain ⟨qn2,Hq2⟩:∃n,Hid (R.nx.length=n):=⟨_,Lib.hid rfl⟩
 obtain ⟨qn3,Hq3⟩:∃n,Hid (R.ac.length=n):=⟨_,Lib.hid rfl⟩
 rw [Hq1.out,Hq2.out,Hq3.out] at hu ⊢
 have rp2:=rp.below hB2 rp.lt
 have ro2:=ro.below hB2 ro.lt
 clear rp ro rd
 go_wp2_with ((with_reducible refine store_agg (f:=oV) (l:=slO3 p1 pn1 pk1 p2 pn2 pk2 p3 pn3 pk3) (l':=slO3 q1 qn1 qk1 q2 qn2 qk2 q3 qn3 qk3) (t:=79) (C:= #[.slice q1 qn1 qk1, .slice q2 qn2 qk2, .slice q3 qn3 qk3]) aggD (.tmp 3) (.tmp 16) ?_ ?_ w.heap.size ?_ ?_ ?_ rp2 ?_ oV_one ?_);rfl;rfl;rfl;rfl;rfl;rfl;(intro W3 rp3 hG3 hz3);(refine Pause.back ?_))
 have hu3:=hu.avoidB HRO.out (HP.out.below (hB.trans (hB2.mono hB.size))) HPO.out.toOk rp2 hG3
 have ro3:=ro2.grown hG3 (fun e=>by injection e with e;omega)
 have hB3:Below w.heap.size w W3:=(hB.trans (hB2.mono hB.size)).grown hG3 (Nat.le_trans hB.size hB2.size) (fun k e=>by injection e with e;omega)
 have hol3:=ro3.lt
 clear hu rp2 ro2 hG3 hB2 hB hpl hol
 refine Pause.out ?_
 go_wp2_with fail
 refine rounds_step (n:=0) ?_
 go_wp2_with (first
  | ((with_reducible refine load_agg (f:=oV) (l:=slO3 q1 qn1 qk1 q2 qn2 qk2 q3 qn3 qk3) (C:= #[.slice q1 qn1 qk1, .slice q2 qn2 qk2, .slice q3 qn3 qk3]) aggD (.tmp 3) ?_ ?_ w.heap.size 0 ?_ rp3.at ?_ ?_);rfl;rfl;rfl;rfl)
  | ((with_reducible refine store_agg (f:=oV) (l:=[on,on,on]) (l':=slO3 q1 qn1 qk1 q2 qn2 qk2 q3 qn3 qk3) (t:=79) (C:= #[.slice q1 qn1 qk1, .slice q2 qn2 qk2, .slice q3 qn3 qk3]) aggD (.tmp 6) (.tmp 23) ?_ ?_ (w.heap.size+2) ?_ ?_ ?_ ro3 ?_ oV_one ?_);rfl;rfl;rfl;rfl;rfl;rfl;(intro WZ hsZ hGZ hzZ)))
 refine bodyPost_ret (v:= .tuple #[.agg #[.slice q1 qn1 qk1, .slice q2 qn2 qk2, .slice q3 qn3 qk3], .int .i64 0]) (results_agg2 (f:=oV) (l:=slO3 q1 qn1 qk1 q2 qn2 qk2 q3 qn3 qk3) (t:=7) rfl _ aggD (w.heap.size+2) 0 rfl hsZ.at) rfl ?_
 exact ⟨_,rfl,HE.out _ _ (hu3.avoid HRO.out ro3 hGZ),hB3.grown hGZ hB3.size (fun k e=>by injection e with e;omega)⟩
end Go.Proofs.YtncnfncglacheaaGreatDoor
namespace Go.Proofs.YtncnfncglacheaaGreatDoor
open Go Go.RowKit Mem
set_option maxRecDepth 100000
structure WdW (w X:World) (tb N:Nat) (cell:List Nat) (nx:List (List Nat)) (ac:List Bool) (pn:Option Addr) (cn:Nat) (pa:Option Addr) (ca:Nat) (us:List OC):Prop where
 bel:Below tb w X
 out:Row oV X tb 79 [on,on,on]
 tab:Row oV X (tb+1) 166 (tbL ⟨cell,256,[],[]⟩ ⟨.slice pn us.length cn,rfl⟩ ⟨.slice pa ac.length ca,rfl⟩)
 next:Mem.Own oV X (tb+2) 92 (.slice pn us.length cn) us
 rows:F2 (RowX X (tb+2) N) us nx
 acc:Mem.Own Value.bool X (tb+2) 4 (.slice pa ac.length ca) ac
 sz:tb+2≤X.heap.size
 nN:N≤X.heap.size
section
variable {w X X':World} {tb N:Nat} {cell:List Nat} {nx:List (List Nat)} {ac:List Bool} {pn:Option Addr} {cn:Nat} {pa:Option Addr} {ca:Nat} {us:List OC}
theorem WdW.grown (h:WdW w X tb N cell nx ac pn cn pa ca us) {row:Option Nat} (hg:X.grownBy X' row) (hr:∀g,row=some g→N≤g∧tb+2≤g∧(Value.slice pn us.length cn).ownBlock≠some g∧(Value.slice pa ac.length ca).ownBlock≠some g):WdW w X' tb N cell nx ac pn cn pa ca us:=by
 have hz:=h.sz
 refine ⟨h.bel.grown hg (by omega) (fun k e=>by have:=(hr k e).2.1;omega),h.out.grown hg (fun e=>by have:=(hr _ e.symm).2.1;omega),h.tab.grown hg (fun e=>by have:=(hr _ e.symm).2.1;omega),h.next.kept hg (fun g hg' e=>(hr g e).2.2.1 hg'),?_,h.acc.kept hg (fun g hg' e=>(hr g e).2.2.2 hg'),Nat.le_trans h.sz hg.size,Nat.le_trans h.nN hg.size⟩
 refine forall2_imp ?_ h.rows
 rintro u r ⟨g,e1,e2,e3,e4,e6⟩
 exact ⟨g,e1,e2.grown hg (fun e=>by have:=(hr g e.symm).1;omega),e3,e4,e6⟩
theorem WdW.under (h:WdW w X tb N cell nx ac pn cn pa ca us) (hb:Below X.heap.size X X'):WdW w X' tb N cell nx ac pn cn pa ca us:=h.grown (Mem.grown_of_below hb none) (fun _ e=>by cases e)
theorem WdW.alloc (h:WdW w X tb N cell nx ac pn cn pa ca us) (o:Obj):WdW w (X.alloc o) tb N cell nx ac pn cn pa ca us:=h.grown (World.grownBy_alloc X o none) (fun _ e=>by cases e)
theorem WdW.mono (h:WdW w X tb N cell nx ac pn cn pa ca us) {M:Nat} (hM:N≤M) (hX:M≤X.heap.size):WdW w X tb M cell nx ac pn cn pa ca us:=
 ⟨h.bel,h.out,h.tab,h.next,forall2_imp (fun _ _ ⟨g,e1,e2,e3,e4,e6⟩=>⟨g,e1,e2,e3,by omega,e6⟩) h.rows,h.acc,h.sz,hX⟩
theorem WdW.row (h:WdW w X tb N cell nx ac pn cn pa ca us) (g i:Nat) {l:List Nat} (hr:Row nV X g 3 l) (v:Value) (hg:N≤g) (hB:tb+2≤g):WdW w (X.setCell ⟨g,i,none⟩ v) tb N cell nx ac pn cn pa ca us:=
 h.grown (grown_cell X g i v) (fun k e=>by
  injection e with e
  subst e
  exact ⟨hg,hB,fun e=>own_row h.next hr (by decide) _ e rfl,fun e=>own_row h.acc hr (by decide) _ e rfl⟩)
theorem WdW.addRow (h:WdW w X tb N cell nx ac pn cn pa ca us) {g:Nat} {r:List Nat} (hr:Row nV X g 3 r) (hgB:tb+2≤g) (hr2:r.length≤256) (hcl:cell.length=256) {o:Obj} {p:Option Addr} {c:Nat} {u:OC} (hu:u.1= .slice (some ⟨g,0,none⟩) r.length r.length)
  (hO:Mem.Own oV X' (tb+2) 92 (.slice p (us++[u]).length c) (us++[u])) (hG:(X.alloc o).grownBy X' (Value.slice pn us.length cn).ownBlock) {M:Nat} (hM:N≤M) (hgM:g<M) (hMX:M≤X'.heap.size):
  WdW w (X'.setCell ⟨tb+1,257,none⟩ (.slice p (us++[u]).length c)) tb M cell (nx++[r]) ac p c pa ca (us++[u]):=by
 have h':=h.alloc o
 have hz:=h'.sz
 have hlt:=fun g e=>(h.next.lt g e).1
 have hne:∀b,b<tb+2→some b≠(Value.slice pn us.length cn).ownBlock:=fun b hb e=>by have:=hlt b e.symm;omega
 have hgs:=grown_cell X' (tb+1) 257 (.slice p (us++[u]).length c)
 have hn3:∀b,b≠tb+1→some b≠some (tb+1):=fun b hb e=>hb (by injection e)
 have d1:=(h'.tab.grown hG (hne _ (by omega))).set 257 ⟨.slice p (us++[u]).length c,rfl⟩
 have e1:(tbL ⟨cell,256,[],[]⟩ ⟨.slice pn us.length cn,rfl⟩ ⟨.slice pa ac.length ca,rfl⟩).set 257 ⟨.slice p (us++[u]).length c,rfl⟩=tbL ⟨cell,256,[],[]⟩ ⟨.slice p (us++[u]).length c,rfl⟩ ⟨.slice pa ac.length ca,rfl⟩:=by
  unfold tbL
  rw [List.set_append_right _ _ (by rw [List.length_map];show cell.length≤257;omega),List.length_map]
  show _++List.set _ (257 - cell.length) _=_
  rw [hcl];rfl
 rw [e1] at d1
 have hzX:tb+2≤X'.heap.size:=Nat.le_trans h'.sz hG.size
 refine ⟨(h'.bel.grown hG (by omega) (fun k e=>by have:=hlt k e;omega)).grown hgs (by omega) (fun k e=>by injection e with e;omega),(h'.out.grown hG (hne _ (by omega))).grown hgs (hn3 _ (by omega)),d1,hO.kept hgs (fun k hk e=>hn3 k (by have:=(hO.lt k hk).1;omega) e.symm),?_,(h'.acc.kept hG (fun k hk e=>own_apart h.next h.acc (by decide) k e hk)).kept hgs (fun k hk e=>hn3 k (by have:=(h.acc.lt k hk).1;omega) e.symm),Nat.le_trans hzX hgs.size,Nat.le_trans hMX hgs.size⟩
 refine f2_snoc (forall2_imp ?_ h.rows) ⟨g,hu,((hr.alloc o).grown hG (fun e=>own_row h.next hr (by decide) _ e.symm rfl)).grown hgs (hn3 _ (by omega)),hgB,hgM,hr2⟩
 rintro u' r' ⟨k,e1,e2,e3,e4,e6⟩
 exact ⟨k,e1,((e2.alloc o).grown hG (fun e=>own_row h.next e2 (by decide) _ e.symm rfl)).grown hgs (hn3 _ (by omega)),e3,by omega,e6⟩
theorem WdW.addAcc (h:WdW w X tb N cell nx ac pn cn pa ca us) (hcl:cell.length=256) {o:Obj} {b:Bool} {p:Option Addr} {c:Nat}
  (hO:Mem.Own Value.bool X' (tb+2) 4 (.slice p (ac++[b]).length c) (ac++[b])) (hG:(X.alloc o).grownBy X' (Value.slice pa ac.length ca).ownBlock):
  WdW w (X'.setCell ⟨tb+1,258,none⟩ (.slice p (ac++[b]).length c)) tb N cell nx (ac++[b]) pn cn p c us:=by
 have h':=h.alloc o
 have hz:=h'.sz
 have hlt:=fun g e=>(h.acc.lt g e).1
 have hne:∀b,b<tb+2→some b≠(Value.slice pa ac.length ca).ownBlock:=fun b hb e=>by have:=hlt b e.symm;omega
 have hgs:=grown_cell X' (tb+1) 258 (.slice p (ac++[b]).length c)
 have hn3:∀b,b≠tb+1→some b≠some (tb+1):=fun b hb e=>hb (by injection e)
 have d1:=(h'.tab.grown hG (hne _ (by omega))).set 258 ⟨.slice p (ac++[b]).length c,rfl⟩
 have e1:(tbL ⟨cell,256,[],[]⟩ ⟨.slice pn us.length cn,rfl⟩ ⟨.slice pa ac.length ca,rfl⟩).set 258 ⟨.slice p (ac++[b]).length c,rfl⟩=tbL ⟨cell,256,[],[]⟩ ⟨.slice pn us.length cn,rfl⟩ ⟨.slice p (ac++[b]).length c,rfl⟩:=by
  unfold tbL
  rw [List.set_append_right _ _ (by rw [List.length_map];show cell.length≤258;omega),List.length_map]
  show _++List.set _ (258 - cell.length) _=_
  rw [hcl];rfl
 rw [e1] at d1
 have hzX:tb+2≤X'.heap.size:=Nat.le_trans h'.sz hG.size
 refine ⟨(h'.bel.grown hG (by omega) (fun k e=>by have:=hlt k e;omega)).grown hgs (by omega) (fun k e=>by injection e with e;omega),(h'.out.grown hG (hne _ (by omega))).grown hgs (hn3 _ (by omega)),d1,(h'.next.kept hG (fun k hk e=>own_apart h.acc h.next (by decide) k e hk)).kept hgs (fun k hk e=>hn3 k (by have:=(h.next.lt k hk).1;omega) e.symm),?_,hO.kept hgs (fun k hk e=>hn3 k (by have:=(hO.lt k hk).1;omega) e.symm),Nat.le_trans hzX hgs.size,Nat.le_trans (Nat.le_trans h'.nN hG.size) hgs.size⟩
 refine forall2_imp ?_ h.rows
 rintro u' r' ⟨k,e1,e2,e3,e4,e6⟩
 exact ⟨k,e1,((e2.alloc o).grown hG (fun e=>own_row h.acc e2 (by decide) _ e.symm rfl)).grown hgs (hn3 _ (by omega)),e3,e4,e6⟩
end
end Go.Proofs.YtncnfncglacheaaGreatDoor
namespace Go.Proofs.YtncnfncglacheaaGreatDoor
open Go Go.RowKit Mem
set_option maxRecDepth 100000
set_option maxHeartbeats 16000000
def idK (k:Nat):List Nat:=List.range k++List.replicate (256 - k) 0
theorem idK_len (k:Nat) (h:k≤256):(idK k).length=256:=by unfold idK;simp;omega
theorem idK_set (k:Nat) (h:k<256):(idK k).set k k=idK (k+1):=by
 unfold idK
 rw [show 256 - k=(256 - (k+1))+1 by omega,List.replicate_succ,List.set_append_right _ _ (by simp),List.length_range,Nat.sub_self,List.set_cons_zero,List.range_succ,List.append_assoc];rfl
abbrev ones:List Nat:=List.replicate 256 1
def wdN (k:Nat):List (List Nat):=List.replicate k ones
def wdA (k:Nat):List Bool:=(List.range k).map (·==0)
theorem wdN_succ (k:Nat):wdN k++[ones]=wdN (k+1):=by unfold wdN;rw [List.replicate_succ']
theorem wdA_succ (k:Nat):wdA k++[k==0]=wdA (k+1):=by unfold wdA;rw [List.range_succ,List.map_append];rfl
theorem wordT_ok:wordT.Ok:=by
 refine ⟨by simp [wordT],by simp [wordT],?_,by simp [wordT],by simp [wordT],by simp [wordT],?_,?_⟩
 ·intro x hx;exact List.mem_range.1 hx
 ·intro r hr;simp only [wordT,List.mem_cons,List.not_mem_nil,or_false,or_self] at hr;subst hr;simp [wordT]
 ·intro r hr t ht
  simp only [wordT,List.mem_cons,List.not_mem_nil,or_false,or_self] at hr
  subst hr
  rw [(List.mem_replicate.1 ht).2];simp [wordT]
theorem tWord0 (w:World) (p:Option Addr) (c:Nat):
  Calls Tryz.prog 135 #[.slice p 0 c] w fun e w'=>∃v,e= .returned v∧DfRes w' v (.ok wordT.canon)∧Below w.heap.size w w':=by
 have b0:Below w.heap.size w (w.alloc (.cells #[.slice none 0 0, .slice none 0 0, .slice none 0 0] 79)):=(Below.refl _ _).alloc (Nat.le_refl _) _
 have r0:Row oV (w.alloc (.cells #[.slice none 0 0, .slice none 0 0, .slice none 0 0] 79)) w.heap.size 79 [on,on,on]:=Row.new _ _ rfl
 have s0:(w.alloc (.cells #[.slice none 0 0, .slice none 0 0, .slice none 0 0] 79)).heap.size=w.heap.size+1:=World.size_alloc _ _
 go_enter Tryz.func135,Tryz.ntmps135
 go_upto_region 4 with (fail)
 generalize (w.alloc (.cells #[.slice none 0 0, .slice none 0 0, .slice none 0 0] 79))=W at b0 r0 s0 ⊢
 have hbu:(Tryz.zeroCells166.setIfInBounds 256 (.int .i64 256))=((tbL ⟨idK 0,256,[],[]⟩ on on).map oV).toArray:=by kernel_rfl
 obtain ⟨C0,HC0⟩:∃C,Hid (C=((tbL ⟨idK 0,256,[],[]⟩ on on).map oV).toArray):=⟨_,Lib.hid rfl⟩
 rw [← HC0.out] at hbu
 have hC9:C0.size=259:=by rw [HC0.out,List.size_toArray,List.length_map];exact tbL_length _ _ (idK_len 0 (by omega))
 have rz:Row oV (W.alloc (.cells zTb 166)) (w.heap.size+1) 166 (tbL ⟨List.replicate 256 0,0,[],[]⟩ on on):=by
  have h:=Row.new (f:=oV) W (t:=166) (l:=tbL ⟨List.replicate 256 0,0,[],[]⟩ on on) (.cells zTb 166) rfl
  rwa [s0] at h
 have b1:=b0.alloc (by rw [s0];omega) (.cells zTb 166)
 have r1:=r0.alloc (.cells zTb 166)
 have s1:(W.alloc (.cells zTb 166)).heap.size=w.heap.size+2:=by rw [World.size_alloc,s0]
 have hAT:AggT Tryz.prog 166 (tbL ⟨idK 0,256,[],[]⟩ on on).length:=by rw [tbL_length _ _ (idK_len 0 (by omega))];exact aggTb
 have hLT:(tbL ⟨idK 0,256,[],[]⟩ on on).length=(tbL ⟨List.replicate 256 0,0,[],[]⟩ on on).length:=by rw [tbL_length _ _ (idK_len 0 (by omega)),tbL_length _ _ (by simp)]
 go_upto_region 5 with (first
  | ((with_reducible refine alloc_big (t:=166) zTb zeroTb ?_ ?_ (w.heap.size+1) ?_ ?_);rfl;rfl;exact s0)
  | ((with_reducible refine store_agg (f:=oV) (l:=tbL ⟨List.replicate 256 0,0,[],[]⟩ on on) (l':=tbL ⟨idK 0,256,[],[]⟩ on on) (t:=166) (C:=C0) hAT (.tmp 5) (.tmp 15) ?_ ?_ (w.heap.size+1) ?_ HC0.out ?_ rz hLT oV_one ?_);rfl;rfl;rfl;(first | rfl | exact congrArg Value.agg hbu);(intro W6 hs6 hG6 hz6)))
 have hW0:WdW w W6 w.heap.size (w.heap.size+2) (idK 0) [] [] none 0 none 0 []:=
  ⟨b1.grown hG6 (by rw [s1];omega) (fun k e=>by injection e with e;omega),r1.grown hG6 (by simp),hs6,Own.nil _ _ _, .nil,Own.nil _ _ _,by rw [hz6,s1];omega,by rw [hz6,s1];omega⟩
 clear b0 r0 s0 hbu hC9 rz b1 r1 s1 hAT hLT hs6 hG6 hz6
 obtain ⟨tb,Htb⟩:∃tb,Hid (w.heap.size=tb):=⟨_,Lib.hid rfl⟩
 rw [Htb.out] at hW0 ⊢
 generalize (Value.agg C0)=vC0
 go_wp2_with fail
 go_loopw [16] (fun s16 wr=>∃k:Nat,k≤256∧s16= .int .i64 k∧WdW w wr tb (tb+2) (idK k) [] [] none 0 none 0 []) (fun s16 _=>256 - (intOf s16).toNat)
 case atStart=>exact ⟨0,by omega,rfl,hW0⟩
 case round=>
  clear hW0
  obtain ⟨k,hk,rfl,hW⟩:=hrel
  by_cases hlt:k<256
  ·have hq:(k:Int)<256:=by omega
   have ck:wr.cell? ⟨tb+1,k,none⟩=some (.int .i64 ((idK k).getD k 0:Nat)):=by
    rw [hW.tab.cell?,tbL_cell _ _ (by rw [show (TB.mk (idK k) 256 [] []).cell=idK k from rfl,idK_len k hk];exact hlt)];rfl
   have fk:=hW.tab.frozen k
   have hg:=grown_cell wr (tb+1) k (.int .i64 (k:Int))
   have ht:Row oV (wr.setCell ⟨tb+1,k,none⟩ (.int .i64 (k:Int))) (tb+1) 166 (tbL ⟨idK (k+1),256,[],[]⟩ on on):=by
    have h:=hW.tab.set k (oi (k:Int))
    rw [tbL_set _ _ _ _ _ (by rw [show (TB.mk (idK k) 256 [] []).cell=idK k from rfl,idK_len k hk];exact hlt)] at h
    rw [← idK_set k hlt]
    exact h
   have hz:=hW.sz
   have hW1:WdW w (wr.setCell ⟨tb+1,k,none⟩ (.int .i64 (k:Int))) tb (tb+2) (idK (k+1)) [] [] none 0 none 0 []:=
    ⟨hW.bel.grown hg (by omega) (fun j e=>by injection e with e;omega),hW.out.grown hg (fun e=>by injection e with e;omega),ht,Own.nil _ _ _, .nil,Own.nil _ _ _,Nat.le_trans hz hg.size,Nat.le_trans hz hg.size⟩
   clear hW hg ht hz
   go_wp2_with fail
   go_roundw
   case rel=>exact ⟨k+1,by omega,by go_num,hW1⟩
   case measure=>simp [intOf];omega
  ·obtain rfl:k=256:=by omega
   have hids:idK 256=List.range 256:=by unfold idK;simp
   rw [hids] at hW
   have HCL:Hid ((List.range 256).length=256):=Lib.hid (by simp)
   obtain ⟨ids,Hids⟩:∃l,Hid (List.range 256=l):=⟨_,Lib.hid rfl⟩
   rw [Hids.out] at hW HCL
   clear hids
   go_wp2_with fail
   go_loopw [26] (fun s26 wq=>∃(k:Nat) (pn:Option Addr) (cn:Nat) (pa:Option Addr) (ca:Nat) (us:List OC) (N:Nat),k≤2∧s26= .int .i64 k∧WdW w wq tb N ids (wdN k) (wdA k) pn cn pa ca us) (fun s26 _=>2 - (intOf s26).toNat)
   case atStart=>exact ⟨0,none,0,none,0,[],tb+2,by omega,rfl,hW⟩
   case round=>
    clear hW
    obtain ⟨k,pn,cn,pa,ca,us,N,hk,rfl,hW⟩:=hrel
    by_cases hlt:k<2
    ·have hq:(k:Int)<2:=by omega
     obtain ⟨MB,hMB⟩:∃C,Hid (C=((List.replicate 256 0).map nV).toArray):=⟨_,Lib.hid rfl⟩
     have hmk:∀w:World,(Instr.makeSlice 92 (.int .i64 256) (.int .i64 256)).run Tryz.prog w= .ok (.slice (some ⟨w.heap.size,0,none⟩) 256 256) (w.alloc (.cells MB 3)):=fun w=>by rw [hMB.out];exact mkIntN w 256 (by omega)
     have hRow:Row nV (wr.alloc (.cells MB 3)) wr.heap.size 3 (List.replicate 256 0):=Row.new _ _ (by rw [hMB.out])
     have hX1:=(hW.alloc (.cells MB 3)).mono (M:=wr.heap.size) hW.nN (by rw [World.size_alloc];omega)
     have hgB:=hW.sz
     have hg1:wr.heap.size+1≤(wr.alloc (.cells MB 3)).heap.size:=by rw [World.size_alloc];exact Nat.le_refl _
     go_upto_region 15 with (fail)
     obtain ⟨g1,Hg1⟩:∃g,Hid (wr.heap.size=g):=⟨_,Lib.hid rfl⟩
     rw [Hg1.out] at hRow hX1 hgB hg1 ⊢
     generalize (wr.alloc (.cells MB 3))=W1 at hRow hX1 hg1 ⊢
     clear hW hmk hMB
     go_wp2_with fail
     go_loopw [32] (fun s32 wq=>∃b:Nat,b≤256∧s32= .int .i64 b∧WdW w wq tb g1 ids (wdN k) (wdA k) pn cn pa ca us∧Row nV wq g1 3 (List.replicate b 1++List.replicate (256 - b) 0)∧g1+1≤wq.heap.size) (fun s32 _=>256 - (intOf s32).toNat)
     case atStart=>exact ⟨0,by omega,rfl,hX1,by simpa using hRow,hg1⟩
     case round=>
      clear hRow hX1 hg1
      clear W1
      obtain ⟨b,hb,rfl,hX,hR,hg1⟩:=hrel
      by_cases hbl:b<256
      ·have hbq:(b:Int)<256:=by omega
       have hrl:b<(List.replicate b 1++List.replicate (256 - b) 0).length:=by simp;omega
       have cb:=rowN_at hR b hrl
       have fb:=hR.frozen b
       have hR2:=hR.set b 1
       rw [snoc_set (by simp) hbl,show List.replicate b 1++[1]=List.replicate (b+1) 1 from (List.replicate_succ' ..).symm] at hR2
       have hX2:=hX.row g1 b hR (.int .i64 1) (Nat.le_refl _) hgB
       have hg2:=Nat.le_trans hg1 (grown_cell wr g1 b (.int .i64 1)).size
       have hR3:Row nV (wr.setCell ⟨g1,b,none⟩ (.int .i64 1)) g1 3 (List.replicate (b+1) 1++List.replicate (256 - (b+1)) 0):=hR2
       clear hX hR hg1 hrl hR2
       go_wp2_with fail
       go_roundw
       case rel=>exact ⟨b+1,by omega,by go_num,hX2,hR3,hg2⟩
       case measure=>simp [intOf];omega
      ·obtain rfl:b=256:=by omega
       rw [Nat.sub_self,List.replicate_zero,List.append_nil] at hR
       have hul:us.length=k:=by rw [f2_length hX.rows];simp [wdN]
       have hal:(wdA k).length=k:=by simp [wdA]
       have c1B:wr.cell? ⟨tb+1,257,none⟩=some (.slice pn us.length cn):=by rw [hX.tab.cell?,show 257=256+1 from rfl,tbL_hi _ _ HCL.out];rfl
       have f1B:=hX.tab.frozen 257
       have hszB:=hX.sz
       have hO3:=hX.next
       obtain ⟨y,Hy⟩:∃y:OC,Hid (y.1= .slice (some ⟨g1,0,none⟩) 256 256):=⟨⟨.slice (some ⟨g1,0,none⟩) 256 256,rfl⟩,Lib.hid rfl⟩
       have Hyo:Hid (Value.slice (some ⟨g1,0,none⟩) 256 256=oV y):=Lib.hid Hy.out.symm
       obtain ⟨us2,Hus2⟩:∃l,Hid (us++[y]=l):=⟨_,Lib.hid rfl⟩
       have HDF:=Lib.hid (hX.alloc (.cells #[.slice (some ⟨g1,0,none⟩) 256 256] 92)).tab
       have HNB:Hid (some (tb+1)≠(Value.slice pn us.length cn).ownBlock):=Lib.hid (fun e=>by have:=(hO3.lt _ e.symm).1;omega)
       have HX:=Lib.hid hX
       have HR:=Lib.hid hR
       have hL1:Hid ((us.length+1) * 24≤140737488355328):=Lib.hid (by omega)
       have hL2:Hid (us.length+1≤140737488355328):=Lib.hid (by omega)
       have Hul:=Lib.hid hul
       have Hal:=Lib.hid hal
       have hkn:¬(k:Int)<0:=by omega
       clear hX hR hul hal
       go_upto_region 22 with (at_builtin;(with_reducible refine append_one eltNN (.tmp 53) (.tmp 55) ?_ ?_ oV_one ?_ hO3 y _ ?_ _ ?_ hL1.out hL2.out hszB us2 Hus2.out ?_);rfl;rfl;rfl;(exact Hyo.out);rfl;(intro p8 c8 W8 hO8 hB8 hG8);(have hd8:=HDF.out.grown hG8 HNB.out);(have c1B8:W8.cell? ⟨tb+1,257,none⟩=some (.slice pn us.length cn):=by rw [hd8.cell?,show 257=256+1 from rfl,tbL_hi _ _ HCL.out];rfl);(have f1B8:=hd8.frozen 257))
       have hX10:WdW w (W8.setCell ⟨tb+1,257,none⟩ (.slice p8 us2.length c8)) tb W8.heap.size ids (wdN (k+1)) (wdA k) p8 c8 pa ca us2:=by
        rw [← Hus2.out] at hO8 ⊢
        have hgs:=hG8.size
        rw [World.size_alloc] at hgs
        have hNN:=HX.out.nN
        rw [← wdN_succ]
        exact HX.out.addRow HR.out hgB (by simp) HCL.out (by simpa using Hy.out) hO8 hG8 (by omega) (by omega) (Nat.le_refl _)
       generalize (W8.setCell ⟨tb+1,257,none⟩ (.slice p8 us2.length c8))=W10 at hX10 ⊢
       obtain ⟨N2,HN2⟩:∃N2,Hid (W8.heap.size=N2):=⟨_,Lib.hid rfl⟩
       rw [HN2.out] at hX10
       clear hd8 c1B8 f1B8 hO8 hG8 hB8 hO3 c1B f1B hszB
       obtain ⟨z,Hz⟩:∃z,Hid ((k==0)=z):=⟨_,Lib.hid rfl⟩
       have hz:((k:Int)==0)=z:=by rw [← Hz.out,Bool.eq_iff_iff];simp
       have c2B:W10.cell? ⟨tb+1,258,none⟩=some (.slice pa (wdA k).length ca):=by rw [hX10.tab.cell?,show 258=256+2 from rfl,tbL_hi _ _ HCL.out];rfl
       have hO9:=hX10.acc
       have hszB:tb+2≤W10.heap.size:=hX10.sz
       obtain ⟨ac2,Hac2⟩:∃l,Hid (wdA k++[z]=l):=⟨_,Lib.hid rfl⟩
       have HAS:Hid (ac2=wdA (k+1)):=Lib.hid (by rw [← Hac2.out,← Hz.out,wdA_succ])
       obtain ⟨al,Hal2⟩:∃l,Hid ((wdA k).length=l):=⟨_,Lib.hid rfl⟩
       have hal3:al=k:=by rw [← Hal2.out];exact Hal.out
       have HA1:Hid (((wdA k).length+1) * 1≤140737488355328):=Lib.hid (by rw [Hal.out];omega)
       have HA2:Hid ((wdA k).length+1≤140737488355328):=Lib.hid (by rw [Hal.out];omega)
       have HDF2:=Lib.hid (hX10.alloc (.cells #[.bool z] 4)).tab
       have HAB:Hid (some (tb+1)≠(Value.slice pa (wdA k).length ca).ownBlock):=Lib.hid (fun e=>by have:=(hO9.lt _ e.symm).1;omega)
       have HX10:=Lib.hid hX10
       clear hX10 HDF HNB HX
       go_wp2_with (at_builtin;(with_reducible refine append_one eltNB (.tmp 59) (.tmp 63) ?_ ?_ bV_one ?_ hO9 z _ ?_ _ ?_ HA1.out HA2.out hszB ac2 Hac2.out ?_);rfl;rfl;rfl;rfl;rfl;(intro p9 c9 W9 hO10 hB9 hG9);(have hd9:=HDF2.out.grown hG9 HAB.out);(have c2B9:W9.cell? ⟨tb+1,258,none⟩=some (.slice pa (wdA k).length ca):=by rw [hd9.cell?,show 258=256+2 from rfl,tbL_hi _ _ HCL.out];rfl);(have f2B9:=hd9.frozen 258))
       have hX11:WdW w (W9.setCell ⟨tb+1,258,none⟩ (.slice p9 ac2.length c9)) tb N2 ids (wdN (k+1)) (wdA (k+1)) p8 c8 p9 c9 us2:=by
        rw [← HAS.out]
        rw [← Hac2.out] at hO10 ⊢
        exact HX10.out.addAcc HCL.out hO10 hG9
       clear hd9 c2B9 f2B9 hO10 hB9 hG9 c2B hO9
       go_roundw
       case rel=>exact ⟨_,_,_,_,⟨k+1,by omega,by go_num,p8,c8,p9,c9,us2,N2,hX11⟩,rfl,rfl,rfl,rfl⟩
       case measure=>simp [intOf];omega
    ·obtain rfl:k=2:=by omega
     have hq:¬((2:Nat):Int)<2:=by omega
     have hut:us.length=2:=by rw [f2_length hW.rows];simp [wdN]
     have htab:=hW.tab
     have hout:=hW.out
     have hWT:wordT=⟨ids,256,wdN 2,wdA 2⟩:=by rw [← Hids.out];rfl
     obtain ⟨L3,HL3⟩:∃l:List OC,Hid (l=tbL ⟨ids,256,[],[]⟩ ⟨.slice pn us.length cn,rfl⟩ ⟨.slice pa (wdA 2).length ca,rfl⟩):=⟨_,Lib.hid rfl⟩
     rw [← HL3.out] at htab
     obtain ⟨C3,HC3⟩:∃C,Hid (C=(L3.map oV).toArray):=⟨_,Lib.hid rfl⟩
     have hL3:L3.length=259:=by rw [HL3.out];exact tbL_length _ _ HCL.out
     have hA3:AggT Tryz.prog 166 L3.length:=by rw [hL3];exact aggTb
     have HTA:Hid (TbAt wr C3 wordT):=Lib.hid (by
      rw [hWT]
      refine ⟨⟨.slice pn us.length cn,rfl⟩,⟨.slice pa (wdA 2).length ca,rfl⟩,by rw [HC3.out,HL3.out];rfl,?_,hW.acc.rd,HCL.out⟩
      rcases hW.next.rd with ⟨p0,e0,e1⟩ | ⟨b1,o1,c1,e1,e2,e3,e4⟩
      ·rw [e1] at hut;cases hut
      ·have hlw:(wdN 2).length=us.length:=by rw [hut];rfl
       refine .inr ⟨b1,o1,c1,by rw [hlw];exact e1,by rw [hlw];exact e2,fun k hk=> ?_,e4⟩
       have hku:k<us.length:=by rw [← hlw];exact hk
       obtain ⟨g,u1,u2,u3,_,u6⟩:=f2_get hW.rows k hku hk
       refine ⟨us[k].1,?_,?_⟩
       ·have h:=e3 k hku
        rw [List.getElem?_eq_getElem hku] at h
        exact h
       ·rw [u1]
        exact (own_of_row (base:=0) u2 (Nat.zero_le _) (by unfold maxLen;show (wdN 2)[k].length≤_;omega)).rd)
     have hbel:Below tb w wr:=hW.bel
     have hsz:=hW.sz
     have hol:=hout.lt
     clear hW hut hWT
     go_wp2_with ((with_reducible refine zL htab.at hA3 HC3.out ?_))
     refine (tCanon wr C3 wordT HTA.out wordT_ok).mono ?_
     rintro e Wc ⟨v,rfl,hv,hBc⟩
     obtain ⟨D,HD⟩:∃D,Hid (wordT.canon=D):=⟨_,Lib.hid rfl⟩
     have HDO:Hid D.Ok:=Lib.hid (by rw [← HD.out];exact wordT_ok.canon.1)
     rw [HD.out] at hv
     obtain ⟨q1,j1,q2,j2,q3,j3,rfl⟩:=hv.parts
     have HU:=Lib.hid hv
     obtain ⟨m1,Hm1⟩:∃n,Hid (D.cls.length=n):=⟨_,Lib.hid rfl⟩
     obtain ⟨m2,Hm2⟩:∃n,Hid (D.nx.length=n):=⟨_,Lib.hid rfl⟩
     obtain ⟨m3,Hm3⟩:∃n,Hid (D.ac.length=n):=⟨_,Lib.hid rfl⟩
     rw [Hm1.out,Hm2.out,Hm3.out] at HU ⊢
     have hRk:=hout.below hBc hol
     have hBwk:Below tb w Wc:=hbel.trans (hBc.mono (by omega))
     clear hv hBc hout htab
     go_wp2_with ((with_reducible refine zS (l':=slO3 q1 m1 j1 q2 m2 j2 q3 m3 j3) hRk aggD ?_);(intro W9 hs9 hG9 hz9))
     have hBf:Below tb w W9:=hBwk.grown hG9 (by have:=hRk.lt;omega) (fun k e=>by injection e with e;omega)
     refine bodyPost_ret (v:= .tuple #[.agg #[.slice q1 m1 j1, .slice q2 m2 j2, .slice q3 m3 j3], .int .i64 0]) (results_agg2 (f:=oV) (l:=slO3 q1 m1 j1 q2 m2 j2 q3 m3 j3) (t:=3) rfl _ aggD tb 0 rfl hs9.at) rfl ?_
     refine ⟨_,rfl,?_,by rw [Htb.out];exact hBf⟩
     rw [HD.out]
     exact ⟨_,rfl,HU.out.avoid HDO.out hRk hG9⟩
end Go.Proofs.YtncnfncglacheaaGreatDoor
namespace Go.Proofs.YtncnfncglacheaaGreatDoor
open Go Go.RowKit Mem
set_option maxRecDepth 100000
set_option maxHeartbeats 16000000
def PowIs (D:DF) (low:Int) (P:DF):Prop:=∀(w:World) (vp vd:Value),DfAt w vp wordT.canon→DfAt w vd D→Tab w→1<w.heap.size→
  Calls Tryz.prog 191 #[vp,vd, .int .i64 low] w fun e w'=>∃v,e= .returned v∧DfRes w' v (.ok P)∧Below w.heap.size w w'
theorem powIs0 (D:DF):PowIs D 0 wordT.canon:=fun w vp vd hp hd _ _=>pow0 w vp vd _ D hp hd wordT_ok.canon.1
theorem powIs1 (D R:DF) (hD:D.V) (hW:wordT.canon.V) (hR:wordT.canon.cat D= .ok R) (hO:R.Ok):PowIs D 1 R:=fun w vp vd hp hd hT hl=>pow1 w vp vd _ D R hp hd hW hD hR hO hT hl
def RpS (w W:World) (l:List OC):Prop:=Below w.heap.size w W∧Row oV W w.heap.size 79 l∧Row oV W (w.heap.size+1) 79 [on,on,on]∧w.heap.size+2≤W.heap.size
theorem RpS.up {w W X:World} {l:List OC} (h:RpS w W l) (hB:Below W.heap.size W X):RpS w X l:=
 ⟨h.1.trans (hB.mono h.1.size),h.2.1.below hB h.2.1.lt,h.2.2.1.below hB h.2.2.1.lt,Nat.le_trans h.2.2.2 hB.size⟩
theorem tRep (w:World) (vd:Value) (D P S R:DF) (low:Int) (hd:DfAt w vd D) (hD:D.V) (hpow:PowIs D low P) (hP:P.V) (hS:D.star= .ok S) (hSV:S.V) (hR:P.cat S= .ok R) (hRO:R.Ok) (hlow:((-1:Int)==low)=false) (hTab:Tab w) (htl:1<w.heap.size):
  Calls Tryz.prog 141 #[vd, .int .i64 low, .int .i64 (-1)] w fun e w'=>∃v,e= .returned v∧DfRes w' v (.ok R)∧Below w.heap.size w w':=by
 have HDV:=Lib.hid hD
 have HPW:=Lib.hid hpow
 have HPV:=Lib.hid hP
 have HS:=Lib.hid hS
 have HSV:=Lib.hid hSV
 have HR:=Lib.hid hR
 have HRO:=Lib.hid hRO
 have HT:=Lib.hid hTab
 have Htl:=Lib.hid htl
 have HE:Hid (∀(w':World) u,DfAt w' u R→DfRes w' (.tuple #[u, .int .i64 0]) (.ok R)):=Lib.hid (fun w' u h=>⟨u,rfl,h⟩)
 obtain ⟨Wd,HWd⟩:∃X,Hid (wordT.canon=X):=⟨_,Lib.hid rfl⟩
 clear hD hpow hP hS hSV hR hRO hTab htl
 obtain ⟨d1,dk1,d2,dk2,d3,dk3,rfl⟩:=hd.parts
 obtain ⟨dn1,Hd1⟩:∃n,Hid (D.cls.length=n):=⟨_,Lib.hid rfl⟩
 obtain ⟨dn2,Hd2⟩:∃n,Hid (D.nx.length=n):=⟨_,Lib.hid rfl⟩
 obtain ⟨dn3,Hd3⟩:∃n,Hid (D.ac.length=n):=⟨_,Lib.hid rfl⟩
 rw [Hd1.out,Hd2.out,Hd3.out] at hd ⊢
 have HD:=Lib.hid hd
 clear hd
 obtain ⟨W,hW,hS⟩:∃W,((w.alloc (.cells #[.slice d1 dn1 dk1, .slice d2 dn2 dk2, .slice d3 dn3 dk3] 79)).alloc (.cells #[.slice none 0 0, .slice none 0 0, .slice none 0 0] 79))=W∧RpS w W (slO3 d1 dn1 dk1 d2 dn2 dk2 d3 dn3 dk3):=by
  have s1:(w.alloc (.cells #[.slice d1 dn1 dk1, .slice d2 dn2 dk2, .slice d3 dn3 dk3] 79)).heap.size=w.heap.size+1:=World.size_alloc _ _
  have r1:Row oV (w.alloc (.cells #[.slice d1 dn1 dk1, .slice d2 dn2 dk2, .slice d3 dn3 dk3] 79)) w.heap.size 79 (slO3 d1 dn1 dk1 d2 dn2 dk2 d3 dn3 dk3):=Row.new _ _ rfl
  have r2:=Row.new (f:=oV) (w.alloc (.cells #[.slice d1 dn1 dk1, .slice d2 dn2 dk2, .slice d3 dn3 dk3] 79)) (t:=79) (l:=[on,on,on]) (.cells #[.slice none 0 0, .slice none 0 0, .slice none 0 0] 79) rfl
  rw [s1] at r2
  exact ⟨_,rfl,((Below.refl _ _).alloc (Nat.le_refl _) _).alloc (by rw [s1];omega) _,r1.alloc _,r2,by rw [World.size_alloc,s1];omega⟩
 go_enter Tryz.func141,Tryz.ntmps141
 go_upto_region 1 with (fail)
 clear hW
 go_wp2_with fail
 refine (tWord0 W none 0).mono ?_
 rw [HWd.out]
 rintro e W1 ⟨v,rfl,⟨u,rfl,ha⟩,hB1⟩
 replace hS:=hS.up hB1
 clear hB1
 obtain ⟨a1,ak1,a2,ak2,a3,ak3,rfl⟩:=ha.parts
 obtain ⟨an1,Ha1⟩:∃n,Hid (Wd.cls.length=n):=⟨_,Lib.hid rfl⟩
 obtain ⟨an2,Ha2⟩:∃n,Hid (Wd.nx.length=n):=⟨_,Lib.hid rfl⟩
 obtain ⟨an3,Ha3⟩:∃n,Hid (Wd.ac.length=n):=⟨_,Lib.hid rfl⟩
 rw [Ha1.out,Ha2.out,Ha3.out] at ha ⊢
 go_upto_region 4 with (fail)
 have hal:Below W1.heap.size W1 (W1.alloc (.cells #[.slice a1 an1 ak1, .slice a2 an2 ak2, .slice a3 an3 ak3] 79)):=(Below.refl _ _).alloc (Nat.le_refl _) _
 have ra:Row oV (W1.alloc (.cells #[.slice a1 an1 ak1, .slice a2 an2 ak2, .slice a3 an3 ak3] 79)) W1.heap.size 79 (slO3 a1 an1 ak1 a2 an2 ak2 a3 an3 ak3):=Row.new _ _ rfl
 replace hS:=hS.up hal
 replace ha:=ha.below hal
 clear hal
 generalize (W1.alloc (.cells #[.slice a1 an1 ak1, .slice a2 an2 ak2, .slice a3 an3 ak3] 79))=W2 at hS ra ha ⊢
 generalize W1.heap.size=ba at ra ⊢
 have hrd:=hS.2.1
 have Hpw:=Lib.hid (HPW.out W2 _ _ (HWd.out▸ha) (HD.out.below hS.1) (HT.out.below hS.1 Htl.out) (Nat.lt_of_lt_of_le Htl.out hS.1.size))
 go_wp2_with (first
  | ((with_reducible refine load_agg (f:=oV) (l:=slO3 a1 an1 ak1 a2 an2 ak2 a3 an3 ak3) (C:= #[.slice a1 an1 ak1, .slice a2 an2 ak2, .slice a3 an3 ak3]) aggD (.tmp 8) ?_ ?_ ba 0 ?_ ra.at ?_ ?_);rfl;rfl;rfl;rfl)
  | ((with_reducible refine load_agg (f:=oV) (l:=slO3 d1 dn1 dk1 d2 dn2 dk2 d3 dn3 dk3) (C:= #[.slice d1 dn1 dk1, .slice d2 dn2 dk2, .slice d3 dn3 dk3]) aggD (.tmp 3) ?_ ?_ w.heap.size 0 ?_ hrd.at ?_ ?_);rfl;rfl;rfl;rfl))
 refine Hpw.out.mono ?_
 rintro e W3 ⟨v,rfl,⟨u,rfl,hq⟩,hB3⟩
 replace hS:=hS.up hB3
 clear hB3 ra hrd Hpw ha
 obtain ⟨q1,qk1,q2,qk2,q3,qk3,rfl⟩:=hq.parts
 obtain ⟨qn1,Hq1⟩:∃n,Hid (P.cls.length=n):=⟨_,Lib.hid rfl⟩
 obtain ⟨qn2,Hq2⟩:∃n,Hid (P.nx.length=n):=⟨_,Lib.hid rfl⟩
 obtain ⟨qn3,Hq3⟩:∃n,Hid (P.ac.length=n):=⟨_,Lib.hid rfl⟩
 rw [Hq1.out,Hq2.out,Hq3.out] at hq ⊢
 go_upto_region 5 with (fail)
 have hal:Below W3.heap.size W3 (W3.alloc (.cells #[.slice q1 qn1 qk1, .slice q2 qn2 qk2, .slice q3 qn3 qk3] 79)):=(Below.refl _ _).alloc (Nat.le_refl _) _
 have rq:Row oV (W3.alloc (.cells #[.slice q1 qn1 qk1, .slice q2 qn2 qk2, .slice q3 qn3 qk3] 79)) W3.heap.size 79 (slO3 q1 qn1 qk1 q2 qn2 qk2 q3 qn3 qk3):=Row.new _ _ rfl
 replace hS:=hS.up hal
 replace hq:=hq.below hal
 clear hal
 generalize (W3.alloc (.cells #[.slice q1 qn1 qk1, .slice q2 qn2 qk2, .slice q3 qn3 qk3] 79))=W4 at hS rq hq ⊢
 generalize W3.heap.size=bq at rq ⊢
 have hrd:=hS.2.1
 have Hst:=Lib.hid (tStar W4 _ D (HD.out.below hS.1) HDV.out (HT.out.below hS.1 Htl.out) (Nat.lt_of_lt_of_le Htl.out hS.1.size))
 rw [HS.out] at Hst
 go_wp2_with ((with_reducible refine load_agg (f:=oV) (l:=slO3 d1 dn1 dk1 d2 dn2 dk2 d3 dn3 dk3) (C:= #[.slice d1 dn1 dk1, .slice d2 dn2 dk2, .slice d3 dn3 dk3]) aggD (.tmp 3) ?_ ?_ w.heap.size 0 ?_ hrd.at ?_ ?_);rfl;rfl;rfl;rfl)
 refine Hst.out.mono ?_
 rintro e W5 ⟨v,rfl,⟨u,rfl,hs⟩,hB5⟩
 replace hS:=hS.up hB5
 replace hq:=hq.below hB5
 replace rq:=rq.below hB5 rq.lt
 clear hB5 hrd Hst
 obtain ⟨s1,sk1,s2,sk2,s3,sk3,rfl⟩:=hs.parts
 obtain ⟨sn1,Hs1⟩:∃n,Hid (S.cls.length=n):=⟨_,Lib.hid rfl⟩
 obtain ⟨sn2,Hs2⟩:∃n,Hid (S.nx.length=n):=⟨_,Lib.hid rfl⟩
 obtain ⟨sn3,Hs3⟩:∃n,Hid (S.ac.length=n):=⟨_,Lib.hid rfl⟩
 rw [Hs1.out,Hs2.out,Hs3.out] at hs ⊢
 go_upto_region 9 with (fail)
 have hal:Below W5.heap.size W5 (W5.alloc (.cells #[.slice s1 sn1 sk1, .slice s2 sn2 sk2, .slice s3 sn3 sk3] 79)):=(Below.refl _ _).alloc (Nat.le_refl _) _
 have rs:Row oV (W5.alloc (.cells #[.slice s1 sn1 sk1, .slice s2 sn2 sk2, .slice s3 sn3 sk3] 79)) W5.heap.size 79 (slO3 s1 sn1 sk1 s2 sn2 sk2 s3 sn3 sk3):=Row.new _ _ rfl
 replace hS:=hS.up hal
 replace hq:=hq.below hal
 replace hs:=hs.below hal
 replace rq:=rq.below hal rq.lt
 clear hal
 generalize (W5.alloc (.cells #[.slice s1 sn1 sk1, .slice s2 sn2 sk2, .slice s3 sn3 sk3] 79))=W6 at hS rq hq rs hs ⊢
 generalize W5.heap.size=bs at rs ⊢
 have Hcat:=Lib.hid (tConcat W6 _ _ P S hq hs HPV.out HSV.out (HT.out.below hS.1 Htl.out) (Nat.lt_of_lt_of_le Htl.out hS.1.size))
 rw [HR.out] at Hcat
 go_wp2_with (first
  | ((with_reducible refine load_agg (f:=oV) (l:=slO3 q1 qn1 qk1 q2 qn2 qk2 q3 qn3 qk3) (C:= #[.slice q1 qn1 qk1, .slice q2 qn2 qk2, .slice q3 qn3 qk3]) aggD (.tmp 10) ?_ ?_ bq 0 ?_ rq.at ?_ ?_);rfl;rfl;rfl;rfl)
  | ((with_reducible refine load_agg (f:=oV) (l:=slO3 s1 sn1 sk1 s2 sn2 sk2 s3 sn3 sk3) (C:= #[.slice s1 sn1 sk1, .slice s2 sn2 sk2, .slice s3 sn3 sk3]) aggD (.tmp 11) ?_ ?_ bs 0 ?_ rs.at ?_ ?_);rfl;rfl;rfl;rfl))
 refine Hcat.out.mono ?_
 rintro e W7 ⟨v,rfl,⟨u,rfl,hr⟩,hB7⟩
 replace hS:=hS.up hB7
 clear hB7 rq rs hq hs Hcat
 obtain ⟨r1,rk1,r2,rk2,r3,rk3,rfl⟩:=hr.parts
 obtain ⟨rn1,Hr1⟩:∃n,Hid (R.cls.length=n):=⟨_,Lib.hid rfl⟩
 obtain ⟨rn2,Hr2⟩:∃n,Hid (R.nx.length=n):=⟨_,Lib.hid rfl⟩
 obtain ⟨rn3,Hr3⟩:∃n,Hid (R.ac.length=n):=⟨_,Lib.hid rfl⟩
 rw [Hr1.out,Hr2.out,Hr3.out] at hr ⊢
 have hR7:=hS.2.2.1
 go_wp2_with ((with_reducible refine store_agg (f:=oV) (l:=[on,on,on]) (l':=slO3 r1 rn1 rk1 r2 rn2 rk2 r3 rn3 rk3) (t:=79) (C:= #[.slice r1 rn1 rk1, .slice r2 rn2 rk2, .slice r3 rn3 rk3]) aggD (.tmp 6) (.tmp 52) ?_ ?_ (w.heap.size+1) ?_ ?_ ?_ hR7 ?_ oV_one ?_);rfl;rfl;rfl;rfl;rfl;rfl;(intro WZ hsZ hGZ hzZ))
 refine bodyPost_ret (v:= .tuple #[.agg #[.slice r1 rn1 rk1, .slice r2 rn2 rk2, .slice r3 rn3 rk3], .int .i64 0]) (results_agg2 (f:=oV) (l:=slO3 r1 rn1 rk1 r2 rn2 rk2 r3 rn3 rk3) (t:=7) rfl _ aggD (w.heap.size+1) 0 rfl hsZ.at) rfl ?_
 exact ⟨_,rfl,HE.out _ _ (hr.avoid HRO.out hR7 hGZ),hS.1.grown hGZ hS.1.size (fun k e=>by injection e with e;omega)⟩
end Go.Proofs.YtncnfncglacheaaGreatDoor
