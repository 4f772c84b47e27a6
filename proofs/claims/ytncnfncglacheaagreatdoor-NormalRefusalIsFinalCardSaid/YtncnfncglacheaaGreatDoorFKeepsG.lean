/- Part of a proof. -/
import Derived.Test.YtncnfncglacheaaGreatDoorFEvRun
import Derived.Test.YtncnfncglacheaaGreatDoorFKeeps
set_option linter.all false
set_option maxRecDepth 100000
set_option maxHeartbeats 64000000
namespace Go.Proofs.YtncnfncglacheaaGreatDoor
open Go.RowKit Mem
theorem Mem.oK.rd {m0:Nat} {w:World} {u:Value} {x:List UInt8} (h:oK m0 w u x):Rd aV w u x:=by
 rcases h with ⟨rfl,rfl⟩ | ⟨b,o,cap,rfl,h1,h2,h3,_⟩
 ·exact .inl ⟨none,rfl,rfl⟩
 ·exact .inr ⟨b,o,cap,rfl,h1,h2,h3⟩
theorem Mem.oK.below {m0:Nat} {w w':World} {u:Value} {x:List UInt8} (h:oK m0 w u x) (hb:Below w.heap.size w w'):oK m0 w' u x:=by
 rcases h with h | ⟨b,o,cap,rfl,h1,h2,h3,h4⟩
 ·exact .inl h
 ·exact .inr ⟨b,o,cap,rfl,h1,h2.below hb h3,bO h3 hb.size,h4⟩
theorem Mem.Own.fresh {m0:Nat} {w:World} {base:Nat} {t:TypeId} {u:Value} {x:List UInt8} (h:Mem.Own aV w base t u x) (hm:m0≤base):oK m0 w u x:=by
 have hr:=h.rd;rcases h.2 with ⟨rfl,h0⟩ | ⟨g,cap,cur,rfl,hl,_⟩
 ·exact .inl ⟨rfl,vR.1 (by simpa using h0)⟩
 ·rcases hr with ⟨p,e,rfl⟩ | ⟨b,o,c,e,h1,h2,h3⟩
  ·cases e;have:=h.lt g rfl;exact .inr ⟨g,0,0,rfl,ah _,fun i hi=>by simp at hi,this.2,aL hm this.1⟩
  ·cases e;exact .inr ⟨g,0,cap,rfl,h1,h2,h3,aL hm (h.lt g rfl).1⟩
theorem o8.weaken {m m0:Nat} {w:World} {u:Value} {x:List UInt8} (h:o8 m w u x) (hm:m0≤m):oK m0 w u x:=by
 rcases h with h | ⟨b,o,cap,rfl,h1,h2,h3,h4⟩
 ·exact .inl h
 ·exact .inr ⟨b,o,cap,rfl,h1,h2,h3,aL hm h4⟩
def NZ.dX (N:NZ) (ρa ρb:List UInt8→fC) (x:List UInt8):Bool:=if (ρa x).alike (ρb x) then N.acc x && (x==N.Ak x) else !N.acc x || ((ρa x).ok && ((ρa (N.Ak x)).alike (ρa x) && (ρa (N.Ak x)).alike (ρb (N.Ak x))))
theorem pU {w:World} {v:Value} {r:fC} (h:uB w v r):∃p n c,v= .agg #[.bool r.ok, .int .i64 r.code, .slice p n c]:=by
 obtain ⟨u,rfl,hf⟩:=h;obtain ⟨p,c,rfl⟩:=hf.slice;exact ⟨_,_,_,rfl⟩
theorem DC {w:World} {r:fC} {ok:Bool} {code:Int} {p:Option Addr} {n c:Nat} (h:uB w (.agg #[.bool ok, .int .i64 code, .slice p n c]) r):Below w.heap.size w (w.alloc (.cells #[.bool ok, .int .i64 code, .slice p n c] 53))∧Hid (∀X:World,Below (w.heap.size+1) (w.alloc (.cells #[.bool ok, .int .i64 code, .slice p n c] 53)) X→uB X (.agg #[.bool ok, .int .i64 code, .slice p n c]) r∧X.cell? ⟨w.heap.size,0,none⟩=some (.bool ok)∧X.cell? ⟨w.heap.size,1,none⟩=some (.int .i64 code)∧X.cell? ⟨w.heap.size,2,none⟩=some (.slice p n c)):=by
 have hb:Below w.heap.size w (w.alloc (.cells #[.bool ok, .int .i64 code, .slice p n c] 53)):=ai (au _ _) (ah _) _;refine ⟨hb,af fun X hX=>⟨h.below (hb.trans (hX.mono (by omega))),?_,?_,?_⟩⟩<;>(unfold World.cell?;rw [hX.block w.heap.size (by omega),World.alloc_heap_new];rfl)
theorem acy (w:World) (N:NZ) (pc pr pe pu p1 p2 p3 p4 p5:Option Addr) (kc kr ke ku n1 k1 n2 k2 n3 k3 n4 k4 n5 k5:Nat) (most:Int) (m0:Nat) (ρa ρb:List UInt8→fC) (x:List UInt8) (hm0:m0≤w.heap.size) (hx:Ev.W3 x)
  (hv:nJ w (.agg #[.slice pc N.cls.length kc, .slice pr N.rows.length kr, .slice pe N.ends.length ke]) N) (hA:Ev.wM m0 w (.agg #[.slice p1 n1 k1, .slice p2 n2 k2]) ρa) (hA':Ev.wM m0 w (.agg #[.slice p3 n3 k3, .slice p4 n4 k4]) ρb)
  (hu:oK m0 w (.slice pu x.length ku) x) (jr:N.zR) (hout:N.acc x=true→Ev.W3 (N.Ak x)):
  Calls Tryz.prog 45 #[.agg #[.slice pc N.cls.length kc, .slice pr N.rows.length kr, .slice pe N.ends.length ke], .agg #[.slice p1 n1 k1, .slice p2 n2 k2, .slice p3 n3 k3, .slice p4 n4 k4, .slice p5 n5 k5, .int .i64 most], .slice pu x.length ku] w fun e w'=>e= .returned (.bool (N.dX ρa ρb x))∧Below w.heap.size w w':=by
 have HV:=af hv;have HU:=af hu;have HA:=af hA;have HA':=af hA';have HX:=af hx;have hxl:x.length≤3:=hx.1;clear hv hu hA hA' hx;go_enter Tryz.func45,Tryz.ntmps45;go_upto_region 1 with (fail)
 obtain ⟨W,hW,hB,hs,g0,g1⟩:∃W,((w.alloc (.cells #[.slice pc N.cls.length kc, .slice pr N.rows.length kr, .slice pe N.ends.length ke] 37)).alloc (.cells #[.slice p1 n1 k1, .slice p2 n2 k2, .slice p3 n3 k3, .slice p4 n4 k4, .slice p5 n5 k5, .int .i64 most] 32))=W∧Below w.heap.size w W∧W.heap.size=w.heap.size+2∧W.heap[w.heap.size]?=some (.cells #[.slice pc N.cls.length kc, .slice pr N.rows.length kr, .slice pe N.ends.length ke] 37 (0,0))∧W.heap[w.heap.size+1]?=some (.cells #[.slice p1 n1 k1, .slice p2 n2 k2, .slice p3 n3 k3, .slice p4 n4 k4, .slice p5 n5 k5, .int .i64 most] 32 (0,0)):=by
  refine ⟨_,rfl,ai (ai (au _ _) (ah _) _) (ah _) _,by simp,?_,?_⟩
  all_goals repeat (first | (refine dH _ _ _ ?_;(simp;done)) | (refine (pM _ _ _ ?_).trans ?_;·(simp<;>omega)))
 rw [hW]
 have HC:Hid (∀X:World,Below W.heap.size W X→X.cell? ⟨w.heap.size,0,none⟩=some (.slice pc N.cls.length kc)∧X.cell? ⟨w.heap.size,1,none⟩=some (.slice pr N.rows.length kr)∧X.cell? ⟨w.heap.size,2,none⟩=some (.slice pe N.ends.length ke)∧X.cell? ⟨w.heap.size+1,0,none⟩=some (.slice p1 n1 k1)∧X.cell? ⟨w.heap.size+1,1,none⟩=some (.slice p2 n2 k2)∧X.cell? ⟨w.heap.size+1,2,none⟩=some (.slice p3 n3 k3)∧X.cell? ⟨w.heap.size+1,3,none⟩=some (.slice p4 n4 k4)):=af fun X hX=>by
  have h1:=(hX.block w.heap.size (by omega)).trans g0;have h2:=(hX.block (w.heap.size+1) (by omega)).trans g1;refine ⟨?_,?_,?_,?_,?_,?_,?_⟩<;>(unfold World.cell?;first | (rw [h1];rfl) | (rw [h2];rfl))
 clear hW g0 g1 hs;have hBW:Below W.heap.size W W:=au _ _;obtain ⟨c0,c1,c2,q0,q1,q2,q3⟩:=HC.out W hBW;go_wp2_with fail;refine (HA.out W hB _ x HX.out (HU.out.below hB)).mono ?_;rintro e W1 ⟨rv,rfl,hr1,hl1,hB1⟩;obtain ⟨s1,m1,d1,rfl⟩:=pU hr1;obtain ⟨hb1,HR1⟩:=DC hr1;replace hBW:=hBW.trans ((hB1.trans (hb1.mono hB1.size)).mono hBW.size);clear c0 c1 c2 q0 q1 q2 q3 hr1 hB1 hb1;obtain ⟨c0,c1,c2,q0,q1,q2,q3⟩:=HC.out _ hBW;go_upto_region 2 with (fail);have hz1:W1.heap.size+1=(W1.alloc (.cells #[.bool (ρa x).ok, .int .i64 (ρa x).code, .slice s1 m1 d1] 53)).heap.size:=by simp
 rw [hz1] at HR1;have hs1:W1.heap.size<(W1.alloc (.cells #[.bool (ρa x).ok, .int .i64 (ρa x).code, .slice s1 m1 d1] 53)).heap.size:=by simp
 clear hz1;generalize (W1.alloc (.cells #[.bool (ρa x).ok, .int .i64 (ρa x).code, .slice s1 m1 d1] 53))=X1 at *;generalize W1.heap.size=b1 at *;have hB1:=hB.trans (hBW.mono hB.size);go_wp2_with fail;refine (HA'.out X1 hB1 _ x HX.out (HU.out.below hB1)).mono ?_;rintro e W2 ⟨rv,rfl,hr2,hl2,hB2⟩;obtain ⟨s2,m2,d2,rfl⟩:=pU hr2;obtain ⟨hb2,HR2⟩:=DC hr2;have hX2:=hB2.trans (hb2.mono hB2.size);replace hBW:=hBW.trans (hX2.mono hBW.size);clear c0 c1 c2 q0 q1 q2 q3 hr2 hB2 hb2;obtain ⟨c0,c1,c2,q0,q1,q2,q3⟩:=HC.out _ hBW;go_upto_region 3 with (fail);have hz2:W2.heap.size+1=(W2.alloc (.cells #[.bool (ρb x).ok, .int .i64 (ρb x).code, .slice s2 m2 d2] 53)).heap.size:=by simp
 rw [hz2] at HR2;clear hz2;generalize (W2.alloc (.cells #[.bool (ρb x).ok, .int .i64 (ρb x).code, .slice s2 m2 d2] 53))=X2 at *;generalize W2.heap.size=b2 at *;have hB2:=hB.trans (hBW.mono hB.size);have hXX:X1.heap.size≤X2.heap.size:=hX2.size;go_wp2_with fail;refine (agW X2 N pc pr pe pu kc kr ke ku x (HV.out.below hB2) (HU.out.below hB2).rd (by omega) jr).mono ?_;clear c0 c1 c2 q0 q1 q2 q3;have HO:=af hout;clear hout;rintro e X3 ⟨hB3,⟨hacc,rfl⟩ | ⟨hacc,lo,hlo,po,ko,rfl,hO⟩⟩
 ·obtain ⟨hra,a0,a1,a2⟩:=HR1.out X3 (hX2.trans (hB3.mono hXX));obtain ⟨hrb,e0,e1,e2⟩:=HR2.out X3 hB3;go_wp2_with fail;refine (CU X3 _ _ (ρa x) (ρb x) hra hrb (by omega)).mono ?_;rintro e X4 ⟨rfl,hB4⟩;have dV:=hB2.trans ((hB3.trans (hB4.mono hB3.size)).mono hB2.size);clear a0 a1 a2 e0 e1 e2 hra hrb;cases hal:(ρa x).alike (ρb x) with
  | true=>
   have HF:Hid (N.dX ρa ρb x=false):=af (by unfold NZ.dX;rw [aC hal,hacc];rfl);go_wp2;go_ret;exact ⟨by rw [HF.out];rfl,dV⟩
  | false=>
   have HF:Hid (N.dX ρa ρb x=true):=af (by unfold NZ.dX;rw [aF (by rw [hal];simp),hacc];rfl);go_wp2;go_ret;exact ⟨by rw [HF.out];rfl,dV⟩
 ·have HE:Hid (N.Ak x=lo):=af hlo.out.symm;clear hlo;have hlo3:Ev.W3 lo:=by rw [← HE.out];exact HO.out hacc
  have HF0:=hO.fresh (m0:=m0) (aL hm0 hB2.size);have HL:=af HF0;have Dz:=af hlo3;have hll:lo.length≤3:=hlo3.1;clear hO HF0 hlo3;obtain ⟨hra,a0,a1,a2⟩:=HR1.out X3 (hX2.trans (hB3.mono hXX));obtain ⟨hrb,e0,e1,e2⟩:=HR2.out X3 hB3;go_wp2_with fail;refine (CU X3 _ _ (ρa x) (ρb x) hra hrb (by omega)).mono ?_;rintro e X4 ⟨rfl,hB4⟩;have QN:=hB3.trans (hB4.mono hB3.size);have dV:=hB2.trans (QN.mono hB2.size);clear a0 a1 a2 e0 e1 e2 hra hrb;cases hal:(ρa x).alike (ρb x) with
  | true=>
   have HF:Hid (N.dX ρa ρb x=(x==lo)):=af (by unfold NZ.dX;rw [aC hal,hacc,HE.out];rfl);clear hal hacc;go_wp2_with fail;refine (Q5 X4 _ _ x lo (HU.out.below dV).rd (HL.out.below hB4).rd).mono ?_;rintro e X5 ⟨rfl,rfl⟩;go_wp2;go_ret;exact ⟨by rw [HF.out];rfl,dV⟩
  | false=>
   have HF:Hid (N.dX ρa ρb x=((ρa x).ok && ((ρa lo).alike (ρa x) && (ρa lo).alike (ρb lo)))):=af (by unfold NZ.dX;rw [aF (by rw [hal];simp),hacc,HE.out];rfl);clear hal hacc;obtain ⟨hra,a0,a1,a2⟩:=HR1.out X4 (hX2.trans (QN.mono hXX));have JE:=hBW.trans (QN.mono hBW.size);obtain ⟨c0,c1,c2,q0,q1,q2,q3⟩:=HC.out X4 JE;cases hok:(ρa x).ok with
   | false=>
    rw [hok] at a0;have HF2:Hid (N.dX ρa ρb x=false):=af (by rw [HF.out,hok];rfl);clear hra hok;go_wp2;go_ret;exact ⟨by rw [HF2.out];rfl,dV⟩
   | true=>
    rw [hok] at a0;have HF2:Hid (N.dX ρa ρb x=((ρa lo).alike (ρa x) && (ρa lo).alike (ρb lo))):=af (by rw [HF.out,hok];rfl);clear hra hok HF;go_wp2_with fail;refine (HA.out X4 dV _ lo Dz.out (HL.out.below hB4)).mono ?_;rintro e W5 ⟨rv,rfl,YN,hl5,zU⟩;obtain ⟨s5,m5,d5,rfl⟩:=pU YN;obtain ⟨hb5,HR5⟩:=DC YN;have wh:=zU.trans (hb5.mono zU.size);have KY:=JE.trans (wh.mono JE.size);clear a0 a1 a2 c0 c1 c2 q0 q1 q2 q3 YN zU hb5;obtain ⟨c0,c1,c2,q0,q1,q2,q3⟩:=HC.out _ KY;go_upto_region 11 with (fail);have Mh:W5.heap.size+1=(W5.alloc (.cells #[.bool (ρa lo).ok, .int .i64 (ρa lo).code, .slice s5 m5 d5] 53)).heap.size:=by simp
    rw [Mh] at HR5;clear Mh;generalize (W5.alloc (.cells #[.bool (ρa lo).ok, .int .i64 (ρa lo).code, .slice s5 m5 d5] 53))=X5 at *;generalize W5.heap.size=b5 at *;have aap:=dV.trans (wh.mono dV.size);have agP:X4.heap.size≤X5.heap.size:=wh.size;go_wp2_with fail;refine (HA'.out X5 aap _ lo Dz.out ((HL.out.below hB4).below wh)).mono ?_;rintro e W6 ⟨rv,rfl,hr6,hl6,gH⟩;obtain ⟨s6,m6,d6,rfl⟩:=pU hr6;obtain ⟨hb6,HR6⟩:=DC hr6;have K3:=gH.trans (hb6.mono gH.size);clear c0 c1 c2 q0 q1 q2 q3 hr6 gH hb6;go_upto_region 12 with (fail);have gP:W6.heap.size+1=(W6.alloc (.cells #[.bool (ρb lo).ok, .int .i64 (ρb lo).code, .slice s6 m6 d6] 53)).heap.size:=by simp
    rw [gP] at HR6;clear gP;generalize (W6.alloc (.cells #[.bool (ρb lo).ok, .int .i64 (ρb lo).code, .slice s6 m6 d6] 53))=X6 at *;generalize W6.heap.size=b6 at *;have agL:X5.heap.size≤X6.heap.size:=K3.size;have afR:=hX2.trans ((QN.trans ((wh.trans (K3.mono agP)).mono QN.size)).mono hXX);have aew:=aap.trans (K3.mono aap.size);obtain ⟨hra,a0,a1,a2⟩:=HR1.out X6 afR;obtain ⟨hrc,e0,e1,e2⟩:=HR5.out X6 K3;go_wp2_with fail;refine (CU X6 _ _ (ρa lo) (ρa x) hrc hra (by omega)).mono ?_;rintro e X7 ⟨rfl,gU⟩;clear a0 a1 a2 e0 e1 e2 hra hrc;have abK:=aew.trans (gU.mono aew.size);cases SH:(ρa lo).alike (ρa x) with
    | false=>
     have HF3:Hid (N.dX ρa ρb x=false):=af (by rw [HF2.out,SH];rfl);clear SH;go_wp2;go_ret;exact ⟨by rw [HF3.out];rfl,abK⟩
    | true=>
     have HF3:Hid (N.dX ρa ρb x=(ρa lo).alike (ρb lo)):=af (by rw [HF2.out,SH];rfl);clear SH;obtain ⟨hrc,e0,e1,e2⟩:=HR5.out X7 (K3.trans (gU.mono agL));obtain ⟨hrd,f0,f1,f2⟩:=HR6.out X7 gU;go_wp2_with fail;refine (CU X7 _ _ (ρa lo) (ρb lo) hrc hrd (by omega)).mono ?_;rintro e X8 ⟨rfl,jC⟩;clear e0 e1 e2 f0 f1 f2 hrc hrd;go_wp2;go_ret;exact ⟨by rw [HF3.out];rfl,abK.trans (jC.mono abK.size)⟩
end Go.Proofs.YtncnfncglacheaaGreatDoor
