/- Part of a proof. -/
import Derived.Test.YtncnfncglacheaaGreatDoorFKeepsG
import Derived.Test.YtncnfncglacheaaGreatDoorFMeets
set_option linter.all false
set_option maxRecDepth 100000
set_option maxHeartbeats 64000000
namespace Go.Proofs.YtncnfncglacheaaGreatDoor
open Go Go.RowKit Go.Shelf Mem
attribute [local go_sem] XO
theorem SA (w:World) (m0:Nat) (ρa ρb:List UInt8→fC) (hm0:m0≤w.heap.size) (N:NZ) (pc pr pe p1 p2 p3 p4:Option Addr) (kc kr ke n1 k1 n2 k2 n3 k3 n4 k4 ba oa ka:Nat) (al:List UInt8) (most:Nat)
  (hv:nJ w (.agg #[.slice pc N.cls.length kc, .slice pr N.rows.length kr, .slice pe N.ends.length ke]) N) (hA:Ev.wM m0 w (.agg #[.slice p1 n1 k1, .slice p2 n2 k2]) ρa) (hA':Ev.wM m0 w (.agg #[.slice p3 n3 k3, .slice p4 n4 k4]) ρb) (hk1:Ev.y7 w (.agg #[.slice p1 n1 k1, .slice p2 n2 k2])) (hk2:Ev.y7 w (.agg #[.slice p3 n3 k3, .slice p4 n4 k4])) (hW3:∀y∈Sc.upTo al (most+1),Ev.W3 y) (hout:∀y,Ev.W3 y→N.acc y=true→Ev.W3 (N.Ak y))
  (hva:Rd aV w (.slice (some ⟨ba,oa,none⟩) al.length ka) al) (hlb:ba<w.heap.size) (ha:1≤al.length∧al.length≤4) (hm:most≤8) (acE:∀i (h:i+1<al.length),al[i].toNat<al[i+1].toNat) (jr:N.zR) (hval:N.valid=true) (hok:rF al most=0):
  Calls Tryz.prog 10 #[.agg #[.slice pc N.cls.length kc, .slice pr N.rows.length kr, .slice pe N.ends.length ke], .agg #[.slice p1 n1 k1, .slice p2 n2 k2, .slice p3 n3 k3, .slice p4 n4 k4, .slice (some ⟨ba,oa,none⟩) al.length ka, .int .i64 most]] w fun e w'=>∃(u:OC) (b:Bool),e= .returned (.tuple #[oV u, .bool b, .int .i64 0])∧Below w.heap.size w w'∧
   ((b=true∧∀x∈Sc.upTo al (most+1),N.dX ρa ρb x=true)∨(b=false∧∃pre x,pre++[x]<+:Sc.upTo al (most+1)∧(∀y∈pre,N.dX ρa ρb y=true)∧N.dX ρa ρb x=false∧Rd aV w' (oV u) x)):=by
 have HV:=af hv;have Lf:=af hva;have HA:=af hA;have HA':=af hA';have HK1:=af hk1;have HK2:=af hk2;have HW3:=af hW3;have afO:=af hout;clear hv hva hA hA' hk1 hk2 hW3 hout;refine (Ey (n:=5)).1 ?_;refine callsIn_of_wp_marks Tryz.func10 rfl trivial ?_ rfl;simp only [Tryz.ntmps10,AZ,nQ,PS,Nat.reduceAdd,Nat.reduceSub,qcp,qcq,qcL,qcE,J4,T9]
 obtain ⟨W,hW,hB,hs,g0,g1,g2,g3,g4⟩:∃W,(((((w.alloc (.cells #[.slice pc N.cls.length kc, .slice pr N.rows.length kr, .slice pe N.ends.length ke] 37)).alloc (.cells #[.slice p1 n1 k1, .slice p2 n2 k2, .slice p3 n3 k3, .slice p4 n4 k4, .slice (some ⟨ba,oa,none⟩) al.length ka, .int .i64 most] 32)).alloc (.cells #[.slice none 0 0] 22)).alloc (.cells #[.bool false] 4)).alloc (.cells #[.int .i64 0] 39))=W∧Below w.heap.size w W∧W.heap.size=w.heap.size+5∧W.heap[w.heap.size]?=some (.cells #[.slice pc N.cls.length kc, .slice pr N.rows.length kr, .slice pe N.ends.length ke] 37 (0,0))∧W.heap[w.heap.size+1]?=some (.cells #[.slice p1 n1 k1, .slice p2 n2 k2, .slice p3 n3 k3, .slice p4 n4 k4, .slice (some ⟨ba,oa,none⟩) al.length ka, .int .i64 most] 32 (0,0))∧Row oV W (w.heap.size+2) 22 [on]∧Row oV W (w.heap.size+3) 4 [ob false]∧Row oV W (w.heap.size+4) 39 [oi 0]:=by
  refine ⟨_,rfl,ai (ai (ai (ai (ai (au _ _) (ah _) _) (ah _) _) (ah _) _) (ah _) _) (ah _) _,by simp,?_,?_,?_,?_,?_⟩
  all_goals repeat (first | (refine dH _ _ _ ?_;(simp;done)) | (refine (pM _ _ _ ?_).trans ?_;·(simp<;>omega)))
 have HC:Hid (∀X:World,Below W.heap.size W X→(X.cell? ⟨w.heap.size,0,none⟩=some (.slice pc N.cls.length kc)∧X.cell? ⟨w.heap.size,1,none⟩=some (.slice pr N.rows.length kr)∧X.cell? ⟨w.heap.size,2,none⟩=some (.slice pe N.ends.length ke))∧X.cell? ⟨w.heap.size+1,0,none⟩=some (.slice p1 n1 k1)∧X.cell? ⟨w.heap.size+1,1,none⟩=some (.slice p2 n2 k2)∧X.cell? ⟨w.heap.size+1,2,none⟩=some (.slice p3 n3 k3)∧X.cell? ⟨w.heap.size+1,3,none⟩=some (.slice p4 n4 k4)∧X.cell? ⟨w.heap.size+1,4,none⟩=some (.slice (some ⟨ba,oa,none⟩) al.length ka)∧X.cell? ⟨w.heap.size+1,5,none⟩=some (.int .i64 most)):=af fun X hX=>by
  have h1:=(hX.block w.heap.size (by omega)).trans g0;have h2:=(hX.block (w.heap.size+1) (by omega)).trans g1;refine ⟨⟨?_,?_,?_⟩,?_,?_,?_,?_,?_,?_⟩<;>(unfold World.cell?;first | (rw [h1];rfl) | (rw [h2];rfl))
 obtain ⟨⟨c0,c1,c2⟩,q0,q1,q2,q3,q4,q5⟩:=HC.out W (au _ _);have HG:=af (And.intro g0 (And.intro g1 (And.intro g2 (And.intro g3 g4))));clear g0 g1 g2 g3 g4
 gi_wp2_with fail
 clear hW;refine ⟨trivial,?_⟩;have hW:Below W.heap.size W W:=au _ _;refine (Ey.2 (HK1.out W hB)).mono ?_;rintro e W1 ⟨a1,b1,ip1,in1,ic1,rfl,hB1⟩;clear c0 c1 c2 q0 q1 q2 q3 q4 q5;have hZ1:Row oV (W1.alloc (.cells #[.int .i64 0, .int .i64 0, .slice none 0 0] 115)) W1.heap.size 115 [oi 0,oi 0,on]:=Row.new _ _ rfl;have hY1:Below W.heap.size W W1:=hW.trans (hB1.mono hW.size)
 gi_wp2_with (((with_reducible refine Aj (f:=oV) (l:=[oi 0,oi 0,on]) (l':=[oi a1,oi b1,⟨.slice ip1 in1 ic1,rfl⟩]) (t:=115) (C:= #[.int .i64 a1, .int .i64 b1, .slice ip1 in1 ic1]) Ry (.tmp 7) (.tmp 17) ?_ ?_ W1.heap.size ?_ ?_ ?_ hZ1 ?_ bF ?_);rfl;rfl;rfl;rfl;rfl;rfl;(intro X1 hs1 hG1 hz1);(refine bN.back ?_)))
 have hX1:Below W.heap.size W X1:=j6 hY1 hG1;clear hZ1 hs1 hG1 hz1 hB1 hW hY1;generalize W1.heap.size=m1 at *;obtain ⟨⟨c0,c1,c2⟩,q0,q1,q2,q3,q4,q5⟩:=HC.out X1 hX1;refine bN.out ?_
 gi_wp2_with fail
 refine ⟨trivial,?_⟩;refine (Ey.2 (HK2.out X1 (hB.trans (hX1.mono hB.size)))).mono ?_;rintro e W2 ⟨a2,b2,ip2,in2,ic2,rfl,hB2⟩;clear c0 c1 c2 q0 q1 q2 q3 q4 q5;have hZ2:Row oV (W2.alloc (.cells #[.int .i64 0, .int .i64 0, .slice none 0 0] 115)) W2.heap.size 115 [oi 0,oi 0,on]:=Row.new _ _ rfl;have hY2:Below W.heap.size W W2:=hX1.trans (hB2.mono hX1.size)
 gi_wp2_with (((with_reducible refine Aj (f:=oV) (l:=[oi 0,oi 0,on]) (l':=[oi a2,oi b2,⟨.slice ip2 in2 ic2,rfl⟩]) (t:=115) (C:= #[.int .i64 a2, .int .i64 b2, .slice ip2 in2 ic2]) Ry (.tmp 9) (.tmp 23) ?_ ?_ W2.heap.size ?_ ?_ ?_ hZ2 ?_ bF ?_);rfl;rfl;rfl;rfl;rfl;rfl;(intro X2 hs2 hG2 hz2);(refine bN.back ?_)))
 have hX2:Below W.heap.size W X2:=j6 hY2 hG2;clear hZ2 hs2 hG2 hz2 hB2 hX1 hY2;generalize W2.heap.size=m2 at *;obtain ⟨⟨c0,c1,c2⟩,q0,q1,q2,q3,q4,q5⟩:=HC.out X2 hX2;refine bN.out ?_
 gi_wp2_with fail
 refine ⟨trivial,?_⟩;refine (Ey.2 (Ww X2 _ N (HV.out.below (hB.trans (hX2.mono hB.size))))).mono ?_;rintro e X3 ⟨rfl,hB3⟩;rw [hval];have Fj:Below W.heap.size W X3:=hX2.trans (hB3.mono hX2.size);clear c0 c1 c2 q0 q1 q2 q3 q4 q5 hX2 hB3;obtain ⟨⟨c0,c1,c2⟩,q0,q1,q2,q3,q4,q5⟩:=HC.out X3 Fj
 gi_wp2_with fail
 refine ⟨trivial,?_⟩;refine (Ey.2 (Qa X3 _ al most (Lf.out.below (hB.trans (Fj.mono hB.size))) ha hm acE)).mono ?_;rintro e X4 ⟨rfl,hB4⟩;rw [hok];have yf:Below W.heap.size W X4:=Fj.trans (hB4.mono Fj.size);clear c0 c1 c2 q0 q1 q2 q3 q4 q5 Fj hB4;obtain ⟨⟨c0,c1,c2⟩,q0,q1,q2,q3,q4,q5⟩:=HC.out X4 yf
 gi_wp2_with fail
 refine ⟨trivial,?_⟩;refine (Ey.2 (adA X4 _ most _ _ _ rfl)).mono ?_;rintro e X5 ⟨rfl,rfl⟩;have wh:=ai yf (ah _) (.cells #[.slice (some ⟨ba,oa,none⟩) al.length ka, .int .i64 most] 30);have rs5:(X4.alloc (.cells #[.slice (some ⟨ba,oa,none⟩) al.length ka, .int .i64 most] 30)).heap[X4.heap.size]?=some (.cells #[.slice (some ⟨ba,oa,none⟩) al.length ka, .int .i64 most] 30 (0,0)):=World.alloc_heap_new _ _;have hl5:(X4.alloc (.cells #[.slice (some ⟨ba,oa,none⟩) al.length ka, .int .i64 most] 30)).heap.size=X4.heap.size+1:=by simp
 have hl4:w.heap.size+5≤X4.heap.size:=by have:=yf.size;omega
 clear c0 c1 c2 q0 q1 q2 q3 q4 q5 yf;generalize (X4.alloc (.cells #[.slice (some ⟨ba,oa,none⟩) al.length ka, .int .i64 most] 30))=X5 at *;generalize X4.heap.size=sb at *
 gi_wp2_with fail
 have hw5:=hB.trans (wh.mono hB.size);obtain ⟨g0,g1,g2,g3,g4⟩:=HG.out;replace g0:=(wh.block _ (by omega)).trans g0;replace g1:=(wh.block _ (by omega)).trans g1;replace g2:=g2.below wh (by omega);replace g3:=g3.below wh (by omega);replace g4:=g4.below wh (by omega);generalize hn:w.heap.size=n at *;clear HC HG hs wh hB X1 X2 X3;have HM5:Hid (m0≤X5.heap.size):=af (aL hm0 (hn▸hw5.size));have hseq:=ZR 4 (by omega) X5 al most (.slice (some ⟨ba,oa,none⟩) al.length ka) sb (fun _=>False) (by unfold World.cell?;rw [rs5];rfl) (by unfold World.cell?;rw [rs5];rfl) (Lf.out.below (hn▸hw5)) (by omega) (fun h=>h) (fun b o n c h k=>k) (fun r h k=>k) ha hm
 refine ac6 rfl (by omega) (gf:=87) (lb:= #[.pointer (some ⟨sb,0,none⟩)]) rfl trivial (enters_of Tryz.func87 (by kernel_rfl) rfl) hseq (fun h k=>h.trans k) (fun W l o o' hl h hc _=>YF _ W l o o' h hc) (abX _ al most) (au _ _) (fun _=>rfl)
  (fun pre X=>(∀y∈pre,N.dX ρa ρb y.1=true)∧Below n w X∧n+5≤X.heap.size∧X.heap[n]?=some (.cells #[.slice pc N.cls.length kc, .slice pr N.rows.length kr, .slice pe N.ends.length ke] 37 (0,0))∧X.heap[n+1]?=some (.cells #[.slice p1 n1 k1, .slice p2 n2 k2, .slice p3 n3 k3, .slice p4 n4 k4, .slice (some ⟨ba,oa,none⟩) al.length ka, .int .i64 most] 32 (0,0))∧Row oV X (n+2) 22 [on]∧Row oV X (n+3) 4 [ob false]∧Row oV X (n+4) 39 [oi 0])
  (fun c pre X=>c= .ret∧∃(u:OC) (p:List (Sc.Wd×Value)) (x:Sc.Wd×Value),pre=p++[x]∧(∀y∈p,N.dX ρa ρb y.1=true)∧N.dX ρa ρb x.1=false∧Mem.Own aV X (n+5) 5 (oV u) x.1∧Below n w X∧n+5≤X.heap.size∧Row oV X (n+2) 22 [u]∧Row oV X (n+3) 4 [ob false]∧Row oV X (n+4) 39 [oi 0])
  ?hI ?hIx ?Pz ?JO ⟨(fun y h=>by cases h),hw5,by omega,g0,g1,g2,g3,g4⟩
  (fun x=>{tmps:= #[.agg #[.slice pc N.cls.length kc, .slice pr N.rows.length kr, .slice pe N.ends.length ke], .agg #[.slice p1 n1 k1, .slice p2 n2 k2, .slice p3 n3 k3, .slice p4 n4 k4, .slice (some ⟨ba,oa,none⟩) al.length ka, .int .i64 most], .pointer (some ⟨n,0,none⟩), .pointer (some ⟨n+1,0,none⟩), .pointer (some ⟨n+1+1,0,none⟩), .pointer (some ⟨n+1+1+1,0,none⟩), .pointer (some ⟨n+1+1+1+1,0,none⟩), .pointer (some ⟨m1,0,none⟩), .int .i64 0, .pointer (some ⟨m2,0,none⟩), .int .i64 0, .int .i64 0,x.2, .tuple #[.agg #[.int .i64 a1, .int .i64 b1, .slice ip1 in1 ic1], .int .i64 0], .pointer (some ⟨n+1,0,none⟩), .agg #[.slice p1 n1 k1, .slice p2 n2 k2], .tuple #[.agg #[.int .i64 a1, .int .i64 b1, .slice ip1 in1 ic1], .int .i64 0], .agg #[.int .i64 a1, .int .i64 b1, .slice ip1 in1 ic1], .int .i64 0, .tuple #[.agg #[.int .i64 a2, .int .i64 b2, .slice ip2 in2 ic2], .int .i64 0], .pointer (some ⟨n+1,2,none⟩), .agg #[.slice p3 n3 k3, .slice p4 n4 k4], .tuple #[.agg #[.int .i64 a2, .int .i64 b2, .slice ip2 in2 ic2], .int .i64 0], .agg #[.int .i64 a2, .int .i64 b2, .slice ip2 in2 ic2], .int .i64 0, .agg #[.slice pc N.cls.length kc, .slice pr N.rows.length kr, .slice pe N.ends.length ke], .bool true, .bool false, .bool false, .int .i64 0, .bool false, .bool false, .bool false, .int .i64 0, .bool false, .bool false, .pointer (some ⟨n+1,4,none⟩), .agg #[.slice (some ⟨ba,oa,none⟩) al.length ka, .int .i64 most], .int .i64 0, .int .i64 0, .bool false,undef, .pointer (some ⟨n+1,4,none⟩), .agg #[.slice (some ⟨ba,oa,none⟩) al.length ka, .int .i64 most], .func (.func 87) #[] #[.pointer (some ⟨sb,0,none⟩)],x.2,undef,undef,undef,undef,undef,undef,undef],defers:=[]}) ?assign ?body ?done ?stop
 case hI=>
  rintro pre A B row ⟨h0,h1,h2,h3,h4,h5,h6,h7⟩ hgr hrow;have hne:∀b,b<n+5→some b≠row:=fun b hb e=>by have:=(hrow _ e.symm).1;omega
  exact ⟨h0,h1.grown hgr (by omega) (fun k e=>by have:=(hrow _ e).1;omega),aL h2 hgr.size,(hgr.block _ (by omega) (hne _ (by omega))).trans h3,(hgr.block _ (by omega) (hne _ (by omega))).trans h4,h5.grown hgr (hne _ (by omega)),h6.grown hgr (hne _ (by omega)),h7.grown hgr (hne _ (by omega))⟩
 case hIx=>
  rintro c pre A B row ⟨rfl,u,p,x,rfl,h0,h1,h2,h3,h4,h5,h6,h7⟩ hgr hrow;have hne:∀b,b<n+5→some b≠row:=fun b hb e=>by have:=(hrow _ e.symm).1;omega
  have hnu:∀g,(oV u).ownBlock=some g→some g≠row:=fun g hg e=>by
   obtain ⟨o,ho,hc⟩:=(hrow _ e.symm).2;rcases h2.2 with ⟨h9,_⟩ | ⟨g',c',cur,h9,_,Vo,_⟩
   ·rw [h9] at hg;cases hg
   ·rw [h9] at hg;injection hg with hg;subst hg;rw [ho] at Vo;injection Vo with Vo;subst Vo;cases hc
  exact ⟨rfl,u,p,x,rfl,h0,h1,h2.dK hgr hnu,h3.grown hgr (by omega) (fun k e=>by have:=(hrow _ e).1;omega),aL h4 hgr.size,h5.grown hgr (hne _ (by omega)),h6.grown hgr (hne _ (by omega)),h7.grown hgr (hne _ (by omega))⟩
 case Pz=>
  rintro pre A B ⟨h0,h1,h2,h3,h4,h5,h6,h7⟩ hb;have hb':Below (n+5) A B:=hb.mono (by omega);exact ⟨h0,h1.trans (hb'.mono (by omega)),aL h2 hb.size,(hb'.block _ (by omega)).trans h3,(hb'.block _ (by omega)).trans h4,h5.below hb' (by omega),h6.below hb' (by omega),h7.below hb' (by omega)⟩
 case JO=>
  rintro c pre A B ⟨rfl,u,p,x,rfl,h0,h1,h2,h3,h4,h5,h6,h7⟩ hb;exact ⟨rfl,u,p,x,rfl,h0,h1,h2.below' hb,h3.trans (hb.mono (by omega)),aL h4 hb.size,h5.below hb h5.lt,h6.below hb h6.lt,h7.below hb h7.lt⟩
 case assign=>
  intro l x W K hK
  gi_wp2
  exact hK
 case body=>
  rintro l pre ⟨xw,xv⟩ X ⟨hk0,hBw,hsz,hn0,hn1,r2,r3,r4⟩ ⟨hrd,hpf⟩;simp only at hrd hpf;have hfr:=hrd;replace hrd:=o8.rd hrd;obtain ⟨px,kx,rfl⟩:=hrd.slice;have HI:=af (And.intro hk0 (And.intro hBw (And.intro hsz (And.intro hn0 (And.intro hn1 (And.intro r2 (And.intro r3 r4)))))))
  obtain ⟨c0,c1,c2⟩:X.cell? ⟨n,0,none⟩=some (.slice pc N.cls.length kc)∧X.cell? ⟨n,1,none⟩=some (.slice pr N.rows.length kr)∧X.cell? ⟨n,2,none⟩=some (.slice pe N.ends.length ke):=by
   refine ⟨?_,?_,?_⟩<;>(unfold World.cell?;rw [hn0];rfl)
  obtain ⟨q0,q1,q2,q3,q4,q5⟩:X.cell? ⟨n+1,0,none⟩=some (.slice p1 n1 k1)∧X.cell? ⟨n+1,1,none⟩=some (.slice p2 n2 k2)∧X.cell? ⟨n+1,2,none⟩=some (.slice p3 n3 k3)∧X.cell? ⟨n+1,3,none⟩=some (.slice p4 n4 k4)∧X.cell? ⟨n+1,4,none⟩=some (.slice (some ⟨ba,oa,none⟩) al.length ka)∧X.cell? ⟨n+1,5,none⟩=some (.int .i64 most):=by
   refine ⟨?_,?_,?_,?_,?_,?_⟩<;>(unfold World.cell?;rw [hn1];rfl)
  have hxl:xw.length≤4096:=by
   have h1:=Yu al (most+1) xw (hpf.subset (by simp));omega
  have hBw':Below w.heap.size w X:=hn▸hBw;have adP:m0≤X.heap.size:=aL hm0 (by rw [← hn];exact hBw'.size);have hw3:Ev.W3 xw:=HW3.out xw (hpf.subset (by simp));have hc3:=acy X N pc pr pe px p1 p2 p3 p4 (some ⟨ba,oa,none⟩) kc kr ke kx n1 k1 n2 k2 n3 k3 n4 k4 al.length ka most m0 ρa ρb xw adP hw3 (HV.out.below hBw') (HA.out.below hBw') (HA'.out.below hBw') (show oK m0 X _ _ from hfr.weaken HM5.out) jr (afO.out xw hw3);have HRD:=af hrd;clear hk0 hBw hsz hn0 hn1 r2 r3 r4 hpf hBw' hrd hfr adP hw3
  gi_wp2_with fail
  refine ⟨trivial,?_⟩;refine (CallsIn.inRound l (Ey.2 hc3)).mono ?_;rintro e X6 ⟨rfl,gH⟩;clear hc3 c0 c1 c2 q0 q1 q2 q3 q4 q5;obtain ⟨hk0,hBw,hsz,hn0,hn1,r2,r3,r4⟩:=HI.out;cases hkept:N.dX ρa ρb xw with
  | true=>
   have HF:Hid ((∀y∈pre++[(xw,Value.slice px xw.length kx)],N.dX ρa ρb y.1=true)∧KeepsOthers X X6∧eX (fun _=>False) X X6∧Below n w X6∧n+5≤X6.heap.size∧X6.heap[n]?=some (.cells #[.slice pc N.cls.length kc, .slice pr N.rows.length kr, .slice pe N.ends.length ke] 37 (0,0))∧X6.heap[n+1]?=some (.cells #[.slice p1 n1 k1, .slice p2 n2 k2, .slice p3 n3 k3, .slice p4 n4 k4, .slice (some ⟨ba,oa,none⟩) al.length ka, .int .i64 most] 32 (0,0))∧Row oV X6 (n+2) 22 [on]∧Row oV X6 (n+3) 4 [ob false]∧Row oV X6 (n+4) 39 [oi 0]):=af (by
    refine ⟨fun y hy=> ?_,vF gH,eX.Rc gH,hBw.trans (gH.mono (by omega)),aL hsz gH.size,(gH.block _ (by omega)).trans hn0,(gH.block _ (by omega)).trans hn1,r2.below gH r2.lt,r3.below gH r3.lt,r4.below gH r4.lt⟩
    rcases sj.1 hy with h | h
    ·exact hk0 y h
    ·rw [lS] at h;subst h;exact hkept)
   clear hkept hk0 hBw hsz hn0 hn1 r2 r3 r4 gH HI
   gi_wp2
   obtain ⟨z0,z1,z2,z3⟩:=HF.out;exact ⟨z1,z2,z0,z3⟩
  | false=>
   have HKE:=af hkept;have aeQ:=HRD.out.below gH;replace hBw:=hBw.trans (gH.mono (show n≤X.heap.size by omega));have QD:=aL hsz gH.size;replace r2:=r2.below gH r2.lt;replace r3:=r3.below gH r3.lt;replace r4:=r4.below gH r4.lt;have ho6:=vF gH;clear hkept hn0 hn1 gH HI hsz
   gi_wp2_with fail
   refine ⟨trivial,?_⟩;refine (CallsIn.inRound l (Ey.2 (VH X6 _ xw aeQ (by omega)))).mono ?_;rintro e X7 ⟨u,rfl,hO,gU⟩;obtain ⟨pu,ku,rfl⟩:=hO.slice;replace hBw:=hBw.trans (gU.mono (show n≤X6.heap.size by omega));replace hO:=hO.mono QD;replace QD:=aL QD gU.size;replace r2:=r2.below gU r2.lt;replace r3:=r3.below gU r3.lt;replace r4:=r4.below gU r4.lt;replace ho6:=ho6.trans (vF gU);clear gU aeQ;have f2:=r2.frozen 0;have f3:=r3.frozen 0;have f4:=r4.frozen 0;have d2:X7.cell? ⟨n+1+1,0,none⟩=some (.slice none 0 0):=by rw [r2.cell?];rfl
   have d3:X7.cell? ⟨n+1+1+1,0,none⟩=some (.bool false):=by rw [r3.cell?];rfl
   have d4:X7.cell? ⟨n+1+1+1+1,0,none⟩=some (.int .i64 0):=by rw [r4.cell?];rfl
   have e2:Row oV (((X7.setCell ⟨n+1+1,0,none⟩ (.slice pu xw.length ku)).setCell ⟨n+1+1+1,0,none⟩ (.bool false)).setCell ⟨n+1+1+1+1,0,none⟩ (.int .i64 0)) (n+2) 22 [⟨.slice pu xw.length ku,rfl⟩]:=((r2.set 0 ⟨.slice pu xw.length ku,rfl⟩).aj (b':=n+1+1+1) (by omega) 0 _).aj (b':=n+1+1+1+1) (by omega) 0 _;have e3:Row oV (((X7.setCell ⟨n+1+1,0,none⟩ (.slice pu xw.length ku)).setCell ⟨n+1+1+1,0,none⟩ (.bool false)).setCell ⟨n+1+1+1+1,0,none⟩ (.int .i64 0)) (n+3) 4 [ob false]:=((r3.aj (b':=n+1+1) (by omega) 0 _).set 0 (ob false)).aj (b':=n+1+1+1+1) (by omega) 0 _;have e4:Row oV (((X7.setCell ⟨n+1+1,0,none⟩ (.slice pu xw.length ku)).setCell ⟨n+1+1+1,0,none⟩ (.bool false)).setCell ⟨n+1+1+1+1,0,none⟩ (.int .i64 0)) (n+4) 39 [oi 0]:=((r4.aj (b':=n+1+1) (by omega) 0 _).aj (b':=n+1+1+1) (by omega) 0 _).set 0 (oi 0)
   have hOa:∀(Y:World) (b:Nat) (v:Value),n+5>b→Mem.Own aV Y (n+5) 5 (.slice pu xw.length ku) xw→Mem.Own aV (Y.setCell ⟨b,0,none⟩ v) (n+5) 5 (.slice pu xw.length ku) xw:=fun Y b v hb h=>
    h.dK (jb (bf (au _ _) (some b)) 0 v) (fun g hg e=>by injection e with e;have:=(h.lt g hg).1;omega)
   have e5:=hOa _ (n+1+1+1+1) (.int .i64 0) (by omega) (hOa _ (n+1+1+1) (.bool false) (by omega) (hOa _ (n+1+1) (.slice pu xw.length ku) (by omega) hO));have e6:=aQ (aQ (aQ hBw (b:=n+1+1) 0 (by omega) (.slice pu xw.length ku)) (b:=n+1+1+1) 0 (by omega) (.bool false)) (b:=n+1+1+1+1) 0 (by omega) (.int .i64 0);have e7:n+5≤(((X7.setCell ⟨n+1+1,0,none⟩ (.slice pu xw.length ku)).setCell ⟨n+1+1+1,0,none⟩ (.bool false)).setCell ⟨n+1+1+1+1,0,none⟩ (.int .i64 0)).heap.size:=by simpa using QD
   have e8:=((ho6.trans (KeepsOthers.setCell _ ⟨n+1+1,0,none⟩ (.slice pu xw.length ku))).trans (KeepsOthers.setCell _ ⟨n+1+1+1,0,none⟩ (.bool false))).trans (KeepsOthers.setCell _ ⟨n+1+1+1+1,0,none⟩ (.int .i64 0));have HF:=af (And.intro e2 (And.intro e3 (And.intro e4 (And.intro e5 (And.intro e6 (And.intro e7 (And.intro e8 hk0)))))));clear e2 e3 e4 e5 e6 e7 e8 hk0 hOa r2 r3 r4 hO hBw ho6 QD
   gi_wp2
   obtain ⟨e2,e3,e4,e5,e6,e7,e8,hk0⟩:=HF.out;exact ⟨e8,rfl,⟨.slice pu xw.length ku,rfl⟩,pre,(xw, .slice px xw.length kx),rfl,hk0,HKE.out,e5,e6,e7,e2,e3,e4⟩
 case done=>
  rintro D xs X hD hS ⟨hk0,hBw,hsz,hn0,hn1,r2,r3,r4⟩ Ib;have f2:=r2.frozen 0;have f3:=r3.frozen 0;have f4:=r4.frozen 0;have d2:X.cell? ⟨n+1+1,0,none⟩=some (.slice none 0 0):=by rw [r2.cell?];rfl
  have d3:X.cell? ⟨n+1+1+1,0,none⟩=some (.bool false):=by rw [r3.cell?];rfl
  have d4:X.cell? ⟨n+1+1+1+1,0,none⟩=some (.int .i64 0):=by rw [r4.cell?];rfl
  have e2:Row oV (((X.setCell ⟨n+1+1,0,none⟩ (.slice none 0 0)).setCell ⟨n+1+1+1,0,none⟩ (.bool true)).setCell ⟨n+1+1+1+1,0,none⟩ (.int .i64 0)) (n+2) 22 [on]:=((r2.set 0 on).aj (b':=n+1+1+1) (by omega) 0 _).aj (b':=n+1+1+1+1) (by omega) 0 _;have e3:Row oV (((X.setCell ⟨n+1+1,0,none⟩ (.slice none 0 0)).setCell ⟨n+1+1+1,0,none⟩ (.bool true)).setCell ⟨n+1+1+1+1,0,none⟩ (.int .i64 0)) (n+3) 4 [ob true]:=((r3.aj (b':=n+1+1) (by omega) 0 _).set 0 (ob true)).aj (b':=n+1+1+1+1) (by omega) 0 _;have e4:Row oV (((X.setCell ⟨n+1+1,0,none⟩ (.slice none 0 0)).setCell ⟨n+1+1+1,0,none⟩ (.bool true)).setCell ⟨n+1+1+1+1,0,none⟩ (.int .i64 0)) (n+4) 39 [oi 0]:=((r4.aj (b':=n+1+1) (by omega) 0 _).aj (b':=n+1+1+1) (by omega) 0 _).set 0 (oi 0);have e6:=aQ (aQ (aQ hBw (b:=n+1+1) 0 (by omega) (.slice none 0 0)) (b:=n+1+1+1) 0 (by omega) (.bool true)) (b:=n+1+1+1+1) 0 (by omega) (.int .i64 0);have e9:(((X.setCell ⟨n+1+1,0,none⟩ (.slice none 0 0)).setCell ⟨n+1+1+1,0,none⟩ (.bool true)).setCell ⟨n+1+1+1+1,0,none⟩ (.int .i64 0)).heap[D]?=some (.deferred (some [])):=(G9 _ _ _ _ (by show D≠n+1+1+1+1;omega)).trans ((G9 _ _ _ _ (by show D≠n+1+1+1;omega)).trans ((G9 _ _ _ _ (by show D≠n+1+1;omega)).trans Ib));have HF:=af (And.intro e2 (And.intro e3 (And.intro e4 (And.intro e6 (And.intro e9 hk0)))));clear e2 e3 e4 e6 e9 hk0 r2 r3 r4 hBw Ib hn0 hn1
  gi_wp2
  obtain ⟨e2,e3,e4,e6,e9,hk0⟩:=HF.out;refine ⟨by simp, .inl ⟨_,_,rfl,run_takeDeferred e9,?_⟩⟩;generalize (((X.setCell ⟨n+1+1,0,none⟩ (.slice none 0 0)).setCell ⟨n+1+1+1,0,none⟩ (.bool true)).setCell ⟨n+1+1+1+1,0,none⟩ (.int .i64 0))=X8 at *;have hG:=grownBy_putObj' X8 D (.deferred none);have r2:=e2.grown hG (fun e=>by injection e with e;omega);have r3:=e3.grown hG (fun e=>by injection e with e;omega);have r4:=e4.grown hG (fun e=>by injection e with e;omega);have d2:(X8.putObj D (.deferred none)).cell? ⟨n+1+1,0,none⟩=some (.slice none 0 0):=by rw [r2.cell?];rfl
  have d3:(X8.putObj D (.deferred none)).cell? ⟨n+1+1+1,0,none⟩=some (.bool true):=by rw [r3.cell?];rfl
  have d4:(X8.putObj D (.deferred none)).cell? ⟨n+1+1+1+1,0,none⟩=some (.int .i64 0):=by rw [r4.cell?];rfl
  refine ⟨.tuple #[.slice none 0 0, .bool true, .int .i64 0],by simp [results,Tryz.results10,go_sem,d2,d3,d4],on,true,rfl,?_, .inl ⟨rfl,fun x hx=> ?_⟩⟩
  ·rw [hn];exact e6.grown hG (by have:=e6.size;omega) (fun k e=>by cases e;omega)
  ·rw [← hS] at hx;obtain ⟨y,hy,rfl⟩:=wS.1 hx;exact hk0 y hy
 case stop=>
  rintro D c pre X hD hSp ⟨rfl,u,p,x,rfl,hk0,hkx,hO,hBw,hsz,r2,r3,r4⟩ Ib;have HF:=af (And.intro r2 (And.intro r3 (And.intro r4 (And.intro hBw (And.intro Ib (And.intro hO (And.intro hkx hk0)))))));clear r2 r3 r4 hBw Ib hO hkx hk0
  gi_wp2
  obtain ⟨e2,e3,e4,e6,e9,hO,hkx,hk0⟩:=HF.out;refine ⟨by simp, .inl ⟨_,_,rfl,run_takeDeferred e9,?_⟩⟩;have hG:=grownBy_putObj' X D (.deferred none);have r2:=e2.grown hG (fun e=>by injection e with e;omega);have r3:=e3.grown hG (fun e=>by injection e with e;omega);have r4:=e4.grown hG (fun e=>by injection e with e;omega)
  have hO2:=hO.dK hG (fun g hg e=>by
   injection e with e;subst e
   rcases hO.2 with ⟨h9,_⟩ | ⟨g',c',cur,h9,_,Vo,_⟩
   ·rw [h9] at hg;cases hg
   ·rw [h9] at hg;injection hg with hg;subst hg;rw [e9] at Vo;cases Vo)
  have d2:(X.putObj D (.deferred none)).cell? ⟨n+1+1,0,none⟩=some (oV u):=by rw [r2.cell?];rfl
  have d3:(X.putObj D (.deferred none)).cell? ⟨n+1+1+1,0,none⟩=some (.bool false):=by rw [r3.cell?];rfl
  have d4:(X.putObj D (.deferred none)).cell? ⟨n+1+1+1+1,0,none⟩=some (.int .i64 0):=by rw [r4.cell?];rfl
  refine ⟨.tuple #[oV u, .bool false, .int .i64 0],by simp [results,Tryz.results10,go_sem,d2,d3,d4],u,false,rfl,?_, .inr ⟨rfl,p.map Prod.fst,x.1,?_,fun y hy=> ?_,hkx,hO2.rd⟩⟩
  ·rw [hn];exact e6.grown hG (by have:=e6.size;omega) (fun k e=>by cases e;omega)
  ·rw [xm] at hSp;exact hSp
  ·obtain ⟨z,hz,rfl⟩:=wS.1 hy;exact hk0 z hz
end Go.Proofs.YtncnfncglacheaaGreatDoor
