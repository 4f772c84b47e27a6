/- Part of a proof. -/
import Derived.Test.YtncnfncglacheaaGreatDoorMEvRun
import Derived.Test.YtncnfncglacheaaGreatDoorMKeeps
set_option linter.all false
set_option maxRecDepth 100000
set_option maxHeartbeats 64000000
namespace Go.Proofs.YtncnfncglacheaaGreatDoor
open Go.RowKit Mem
theorem Mem.mZ.rd {m0:Nat} {w:World} {u:Value} {x:List UInt8} (h:mZ m0 w u x):Rd aV w u x:=by
 rcases h with ⟨rfl,rfl⟩ | ⟨b,o,cap,rfl,h1,h2,h3,_⟩
 ·exact .inl ⟨none,rfl,rfl⟩
 ·exact .inr ⟨b,o,cap,rfl,h1,h2,h3⟩
theorem Mem.mZ.below {m0:Nat} {w w':World} {u:Value} {x:List UInt8} (h:mZ m0 w u x) (hb:Below w.heap.size w w'):mZ m0 w' u x:=by
 rcases h with h | ⟨b,o,cap,rfl,h1,h2,h3,h4⟩
 ·exact .inl h
 ·exact .inr ⟨b,o,cap,rfl,h1,h2.below hb h3,bJ h3 hb.size,h4⟩
theorem Mem.Own.fresh {m0:Nat} {w:World} {base:Nat} {t:TypeId} {u:Value} {x:List UInt8} (h:Mem.Own aV w base t u x) (hm:m0≤base):mZ m0 w u x:=by
 have hr:=h.rd;rcases h.2 with ⟨rfl,h0⟩ | ⟨g,cap,cur,rfl,hl,_⟩
 ·exact .inl ⟨rfl,xJ.1 (by simpa using h0)⟩
 ·rcases hr with ⟨p,e,rfl⟩ | ⟨b,o,c,e,h1,h2,h3⟩
  ·cases e;have:=h.lt g rfl;exact .inr ⟨g,0,0,rfl,af _,fun i hi=>by simp at hi,this.2,aJ hm this.1⟩
  ·cases e;exact .inr ⟨g,0,cap,rfl,h1,h2,h3,aJ hm (h.lt g rfl).1⟩
theorem oF.weaken {m m0:Nat} {w:World} {u:Value} {x:List UInt8} (h:oF m w u x) (hm:m0≤m):mZ m0 w u x:=by
 rcases h with h | ⟨b,o,cap,rfl,h1,h2,h3,h4⟩
 ·exact .inl h
 ·exact .inr ⟨b,o,cap,rfl,h1,h2,h3,aJ hm h4⟩
def NZ.dD (N:NZ) (ρa ρb:List UInt8→iU) (x:List UInt8):Bool:=if (ρa x).alike (ρb x) then N.acc x && (x==N.sI x) else !N.acc x || ((ρa x).ok && ((ρa (N.sI x)).alike (ρa x) && (ρa (N.sI x)).alike (ρb (N.sI x))))
theorem oW {w:World} {v:Value} {r:iU} (h:zO w v r):∃p n c,v= .agg #[.bool r.ok, .int .i64 r.code, .slice p n c]:=by
 obtain ⟨u,rfl,hf⟩:=h;obtain ⟨p,c,rfl⟩:=hf.slice;exact ⟨_,_,_,rfl⟩
theorem oK {w:World} {r:iU} {ok:Bool} {code:Int} {p:Option Addr} {n c:Nat} (h:zO w (.agg #[.bool ok, .int .i64 code, .slice p n c]) r):Below w.heap.size w (w.alloc (.cells #[.bool ok, .int .i64 code, .slice p n c] 53))∧Hid (∀X:World,Below (w.heap.size+1) (w.alloc (.cells #[.bool ok, .int .i64 code, .slice p n c] 53)) X→zO X (.agg #[.bool ok, .int .i64 code, .slice p n c]) r∧X.cell? ⟨w.heap.size,0,none⟩=some (.bool ok)∧X.cell? ⟨w.heap.size,1,none⟩=some (.int .i64 code)∧X.cell? ⟨w.heap.size,2,none⟩=some (.slice p n c)):=by
 have hb:Below w.heap.size w (w.alloc (.cells #[.bool ok, .int .i64 code, .slice p n c] 53)):=ah (ak _ _) (af _) _;refine ⟨hb,Lib.hid fun X hX=>⟨h.below (hb.trans (hX.mono (by omega))),?_,?_,?_⟩⟩<;>(unfold World.cell?;rw [hX.block w.heap.size (by omega),World.alloc_heap_new];rfl)
theorem abL (w:World) (N:NZ) (pc pr pe pu p1 p2 p3 p4 p5:Option Addr) (kc kr ke ku n1 k1 n2 k2 n3 k3 n4 k4 n5 k5:Nat) (most:Int) (m0:Nat) (ρa ρb:List UInt8→iU) (x:List UInt8) (hm0:m0≤w.heap.size) (hx:Ev.W3 x)
  (hv:ng w (.agg #[.slice pc N.cls.length kc, .slice pr N.rows.length kr, .slice pe N.ends.length ke]) N) (hA:Ev.kZ m0 w (.agg #[.slice p1 n1 k1, .slice p2 n2 k2]) ρa) (hA':Ev.kZ m0 w (.agg #[.slice p3 n3 k3, .slice p4 n4 k4]) ρb)
  (hu:mZ m0 w (.slice pu x.length ku) x) (gH:N.zx) (hout:N.acc x=true→Ev.W3 (N.sI x)):
  Calls Tryz.prog 45 #[.agg #[.slice pc N.cls.length kc, .slice pr N.rows.length kr, .slice pe N.ends.length ke], .agg #[.slice p1 n1 k1, .slice p2 n2 k2, .slice p3 n3 k3, .slice p4 n4 k4, .slice p5 n5 k5, .int .i64 most], .slice pu x.length ku] w fun e w'=>e= .returned (.bool (N.dD ρa ρb x))∧Below w.heap.size w w':=by
 have HV:=Lib.hid hv;have HU:=Lib.hid hu;have HA:=Lib.hid hA;have Uq:=Lib.hid hA';have HX:=Lib.hid hx;have hxl:x.length≤3:=hx.1;clear hv hu hA hA' hx;go_enter Tryz.func45,Tryz.ntmps45;go_upto_region 1 with (fail)
 obtain ⟨W,hW,hB,hs,g0,g1⟩:∃W,((w.alloc (.cells #[.slice pc N.cls.length kc, .slice pr N.rows.length kr, .slice pe N.ends.length ke] 37)).alloc (.cells #[.slice p1 n1 k1, .slice p2 n2 k2, .slice p3 n3 k3, .slice p4 n4 k4, .slice p5 n5 k5, .int .i64 most] 32))=W∧Below w.heap.size w W∧W.heap.size=w.heap.size+2∧W.heap[w.heap.size]?=some (.cells #[.slice pc N.cls.length kc, .slice pr N.rows.length kr, .slice pe N.ends.length ke] 37 (0,0))∧W.heap[w.heap.size+1]?=some (.cells #[.slice p1 n1 k1, .slice p2 n2 k2, .slice p3 n3 k3, .slice p4 n4 k4, .slice p5 n5 k5, .int .i64 most] 32 (0,0)):=by
  refine ⟨_,rfl,ah (ah (ak _ _) (af _) _) (af _) _,by simp,?_,?_⟩
  all_goals repeat (first | (refine dA _ _ _ ?_;(simp;done)) | (refine (o5 _ _ _ ?_).trans ?_;·(simp<;>omega)))
 rw [hW]
 have HC:Hid (∀X:World,Below W.heap.size W X→X.cell? ⟨w.heap.size,0,none⟩=some (.slice pc N.cls.length kc)∧X.cell? ⟨w.heap.size,1,none⟩=some (.slice pr N.rows.length kr)∧X.cell? ⟨w.heap.size,2,none⟩=some (.slice pe N.ends.length ke)∧X.cell? ⟨w.heap.size+1,0,none⟩=some (.slice p1 n1 k1)∧X.cell? ⟨w.heap.size+1,1,none⟩=some (.slice p2 n2 k2)∧X.cell? ⟨w.heap.size+1,2,none⟩=some (.slice p3 n3 k3)∧X.cell? ⟨w.heap.size+1,3,none⟩=some (.slice p4 n4 k4)):=Lib.hid fun X hX=>by
  have h1:=(hX.block w.heap.size (by omega)).trans g0;have h2:=(hX.block (w.heap.size+1) (by omega)).trans g1;refine ⟨?_,?_,?_,?_,?_,?_,?_⟩<;>(unfold World.cell?;first | (rw [h1];rfl) | (rw [h2];rfl))
 clear hW g0 g1 hs;have hBW:Below W.heap.size W W:=ak _ _;obtain ⟨c0,c1,c2,q0,q1,q2,q3⟩:=HC.out W hBW;go_wp2_with fail;refine (HA.out W hB _ x HX.out (HU.out.below hB)).mono ?_;rintro e W1 ⟨rv,rfl,hr1,hl1,hB1⟩;obtain ⟨s1,m1,d1,rfl⟩:=oW hr1;obtain ⟨hb1,HR1⟩:=oK hr1;replace hBW:=hBW.trans ((hB1.trans (hb1.mono hB1.size)).mono hBW.size);clear c0 c1 c2 q0 q1 q2 q3 hr1 hB1 hb1;obtain ⟨c0,c1,c2,q0,q1,q2,q3⟩:=HC.out _ hBW;go_upto_region 2 with (fail);have hz1:W1.heap.size+1=(W1.alloc (.cells #[.bool (ρa x).ok, .int .i64 (ρa x).code, .slice s1 m1 d1] 53)).heap.size:=by simp
 rw [hz1] at HR1;have hs1:W1.heap.size<(W1.alloc (.cells #[.bool (ρa x).ok, .int .i64 (ρa x).code, .slice s1 m1 d1] 53)).heap.size:=by simp
 clear hz1;generalize (W1.alloc (.cells #[.bool (ρa x).ok, .int .i64 (ρa x).code, .slice s1 m1 d1] 53))=X1 at *;generalize W1.heap.size=b1 at *;have hB1:=hB.trans (hBW.mono hB.size);go_wp2_with fail;refine (Uq.out X1 hB1 _ x HX.out (HU.out.below hB1)).mono ?_;rintro e W2 ⟨rv,rfl,hr2,hl2,hB2⟩;obtain ⟨s2,m2,d2,rfl⟩:=oW hr2;obtain ⟨hb2,HR2⟩:=oK hr2;have hX2:=hB2.trans (hb2.mono hB2.size);replace hBW:=hBW.trans (hX2.mono hBW.size);clear c0 c1 c2 q0 q1 q2 q3 hr2 hB2 hb2;obtain ⟨c0,c1,c2,q0,q1,q2,q3⟩:=HC.out _ hBW;go_upto_region 3 with (fail);have hz2:W2.heap.size+1=(W2.alloc (.cells #[.bool (ρb x).ok, .int .i64 (ρb x).code, .slice s2 m2 d2] 53)).heap.size:=by simp
 rw [hz2] at HR2;clear hz2;generalize (W2.alloc (.cells #[.bool (ρb x).ok, .int .i64 (ρb x).code, .slice s2 m2 d2] 53))=X2 at *;generalize W2.heap.size=b2 at *;have hB2:=hB.trans (hBW.mono hB.size);have RA:X1.heap.size≤X2.heap.size:=hX2.size;go_wp2_with fail;refine (adk X2 N pc pr pe pu kc kr ke ku x (HV.out.below hB2) (HU.out.below hB2).rd (by omega) gH).mono ?_;clear c0 c1 c2 q0 q1 q2 q3;have HO:=Lib.hid hout;clear hout;rintro e X3 ⟨hB3,⟨hacc,rfl⟩ | ⟨hacc,lo,hlo,po,ko,rfl,hO⟩⟩
 ·obtain ⟨hra,a0,a1,a2⟩:=HR1.out X3 (hX2.trans (hB3.mono RA));obtain ⟨hrb,e0,e1,e2⟩:=HR2.out X3 hB3;go_wp2_with fail;refine (wL X3 _ _ (ρa x) (ρb x) hra hrb (by omega)).mono ?_;rintro e X4 ⟨rfl,hB4⟩;have dO:=hB2.trans ((hB3.trans (hB4.mono hB3.size)).mono hB2.size);clear a0 a1 a2 e0 e1 e2 hra hrb;cases hal:(ρa x).alike (ρb x) with
  | true=>
   have HF:Hid (N.dD ρa ρb x=false):=Lib.hid (by unfold NZ.dD;rw [if_pos hal,hacc];rfl);go_wp2;go_ret;exact ⟨by rw [HF.out];rfl,dO⟩
  | false=>
   have HF:Hid (N.dD ρa ρb x=true):=Lib.hid (by unfold NZ.dD;rw [if_neg (by rw [hal];simp),hacc];rfl);go_wp2;go_ret;exact ⟨by rw [HF.out];rfl,dO⟩
 ·have HE:Hid (N.sI x=lo):=Lib.hid hlo.out.symm;clear hlo;have hlo3:Ev.W3 lo:=by rw [← HE.out];exact HO.out hacc
  have HF0:=hO.fresh (m0:=m0) (aJ hm0 hB2.size);have HL:=Lib.hid HF0;have xR:=Lib.hid hlo3;have hll:lo.length≤3:=hlo3.1;clear hO HF0 hlo3;obtain ⟨hra,a0,a1,a2⟩:=HR1.out X3 (hX2.trans (hB3.mono RA));obtain ⟨hrb,e0,e1,e2⟩:=HR2.out X3 hB3;go_wp2_with fail;refine (wL X3 _ _ (ρa x) (ρb x) hra hrb (by omega)).mono ?_;rintro e X4 ⟨rfl,hB4⟩;have QI:=hB3.trans (hB4.mono hB3.size);have dO:=hB2.trans (QI.mono hB2.size);clear a0 a1 a2 e0 e1 e2 hra hrb;cases hal:(ρa x).alike (ρb x) with
  | true=>
   have HF:Hid (N.dD ρa ρb x=(x==lo)):=Lib.hid (by unfold NZ.dD;rw [if_pos hal,hacc,HE.out];rfl);clear hal hacc;go_wp2_with fail;refine (QB X4 _ _ x lo (HU.out.below dO).rd (HL.out.below hB4).rd).mono ?_;rintro e X5 ⟨rfl,rfl⟩;go_wp2;go_ret;exact ⟨by rw [HF.out];rfl,dO⟩
  | false=>
   have HF:Hid (N.dD ρa ρb x=((ρa x).ok && ((ρa lo).alike (ρa x) && (ρa lo).alike (ρb lo)))):=Lib.hid (by unfold NZ.dD;rw [if_neg (by rw [hal];simp),hacc,HE.out];rfl);clear hal hacc;obtain ⟨hra,a0,a1,a2⟩:=HR1.out X4 (hX2.trans (QI.mono RA));have Qi:=hBW.trans (QI.mono hBW.size);obtain ⟨c0,c1,c2,q0,q1,q2,q3⟩:=HC.out X4 Qi;cases hok:(ρa x).ok with
   | false=>
    rw [hok] at a0;have NB:Hid (N.dD ρa ρb x=false):=Lib.hid (by rw [HF.out,hok];rfl);clear hra hok;go_wp2;go_ret;exact ⟨by rw [NB.out];rfl,dO⟩
   | true=>
    rw [hok] at a0;have NB:Hid (N.dD ρa ρb x=((ρa lo).alike (ρa x) && (ρa lo).alike (ρb lo))):=Lib.hid (by rw [HF.out,hok];rfl);clear hra hok HF;go_wp2_with fail;refine (HA.out X4 dO _ lo xR.out (HL.out.below hB4)).mono ?_;rintro e W5 ⟨rv,rfl,Ld,hl5,vR⟩;obtain ⟨s5,m5,d5,rfl⟩:=oW Ld;obtain ⟨hb5,Xm⟩:=oK Ld;have oN:=vR.trans (hb5.mono vR.size);have F5:=Qi.trans (oN.mono Qi.size);clear a0 a1 a2 c0 c1 c2 q0 q1 q2 q3 Ld vR hb5;obtain ⟨c0,c1,c2,q0,q1,q2,q3⟩:=HC.out _ F5;go_upto_region 11 with (fail);have Ez:W5.heap.size+1=(W5.alloc (.cells #[.bool (ρa lo).ok, .int .i64 (ρa lo).code, .slice s5 m5 d5] 53)).heap.size:=by simp
    rw [Ez] at Xm;clear Ez;generalize (W5.alloc (.cells #[.bool (ρa lo).ok, .int .i64 (ρa lo).code, .slice s5 m5 d5] 53))=X5 at *;generalize W5.heap.size=b5 at *;have Kh:=dO.trans (oN.mono dO.size);have agy:X4.heap.size≤X5.heap.size:=oN.size;go_wp2_with fail;refine (Uq.out X5 Kh _ lo xR.out ((HL.out.below hB4).below oN)).mono ?_;rintro e W6 ⟨rv,rfl,Ui,hl6,gP⟩;obtain ⟨s6,m6,d6,rfl⟩:=oW Ui;obtain ⟨hb6,HR6⟩:=oK Ui;have zu:=gP.trans (hb6.mono gP.size);clear c0 c1 c2 q0 q1 q2 q3 Ui gP hb6;go_upto_region 12 with (fail);have fO:W6.heap.size+1=(W6.alloc (.cells #[.bool (ρb lo).ok, .int .i64 (ρb lo).code, .slice s6 m6 d6] 53)).heap.size:=by simp
    rw [fO] at HR6;clear fO;generalize (W6.alloc (.cells #[.bool (ρb lo).ok, .int .i64 (ρb lo).code, .slice s6 m6 d6] 53))=X6 at *;generalize W6.heap.size=b6 at *;have ab6:X5.heap.size≤X6.heap.size:=zu.size;have MN:=hX2.trans ((QI.trans ((oN.trans (zu.mono agy)).mono QI.size)).mono RA);have Qj:=Kh.trans (zu.mono Kh.size);obtain ⟨hra,a0,a1,a2⟩:=HR1.out X6 MN;obtain ⟨hrc,e0,e1,e2⟩:=Xm.out X6 zu;go_wp2_with fail;refine (wL X6 _ _ (ρa lo) (ρa x) hrc hra (by omega)).mono ?_;rintro e X7 ⟨rfl,fD⟩;clear a0 a1 a2 e0 e1 e2 hra hrc;have yA:=Qj.trans (fD.mono Qj.size);cases zZ:(ρa lo).alike (ρa x) with
    | false=>
     have TA:Hid (N.dD ρa ρb x=false):=Lib.hid (by rw [NB.out,zZ];rfl);clear zZ;go_wp2;go_ret;exact ⟨by rw [TA.out];rfl,yA⟩
    | true=>
     have TA:Hid (N.dD ρa ρb x=(ρa lo).alike (ρb lo)):=Lib.hid (by rw [NB.out,zZ];rfl);clear zZ;obtain ⟨hrc,e0,e1,e2⟩:=Xm.out X7 (zu.trans (fD.mono ab6));obtain ⟨hrd,f0,f1,f2⟩:=HR6.out X7 fD;go_wp2_with fail;refine (wL X7 _ _ (ρa lo) (ρb lo) hrc hrd (by omega)).mono ?_;rintro e X8 ⟨rfl,jf⟩;clear e0 e1 e2 f0 f1 f2 hrc hrd;go_wp2;go_ret;exact ⟨by rw [TA.out];rfl,yA.trans (jf.mono yA.size)⟩
def NZ.pE (N:NZ) (x:List UInt8):List UInt8:=if N.acc x=true then N.sI x else []
def NZ.zJ (N:NZ) (ρa ρb:List UInt8→iU) (x:List UInt8):Bool:=if (ρa x).alike (ρb x) then N.acc x && (x==N.pE x) else !N.acc x || ((ρa x).ok && ((ρa x).alike (ρa (N.pE x)) && (ρa x).alike (ρb (N.pE x))))
theorem zm {r s:iU} (h:r.ok=true):r.alike s=(s.ok && decide (r.fs=s.fs)):=by
 unfold iU.alike;rw [h];cases s.ok<;>rfl
theorem Xn (N:NZ) (ρa ρb:List UInt8→iU) (x:List UInt8):N.zJ ρa ρb x=N.dD ρa ρb x:=by
 unfold NZ.zJ NZ.dD NZ.pE;cases hacc:N.acc x with
 | false=>cases (ρa x).alike (ρb x)<;>rfl
 | true=>
  simp only [if_true];cases (ρa x).alike (ρb x) with
  | true=>rfl
  | false=>
   simp only [Iu,if_false,Nq,DY];cases hok:(ρa x).ok with
   | false=>rfl
   | true=>
    simp only [Jq];rw [zm hok,zm hok];cases hc:(ρa (N.sI x)).ok with
    | false=>
     have:(ρa (N.sI x)).alike (ρa x)=false:=by unfold iU.alike;rw [hc,hok];rfl
     rw [this];rfl
    | true=>
     rw [zm hc,zm hc,hok];simp only [Jq];rw [Dr];simp only [cB,decide_eq_true_eq];constructor
     ·rintro ⟨h1,h2,h3⟩;exact ⟨h1.symm,h2,h1.symm.trans h3⟩
     ·rintro ⟨h1,h2,h3⟩;exact ⟨h1.symm,h2,h1.symm.trans h3⟩
theorem acU:Ev.W3 []:=⟨by simp,fun b hb=>by simp at hb⟩
theorem Zw {N:NZ} {x:List UInt8} (h:N.acc x=true→Ev.W3 (N.sI x)):Ev.W3 (N.pE x):=by
 unfold NZ.pE;split
 ·exact h (by assumption)
 ·exact acU
theorem aeD (w:World) (N:NZ) (pc pr pe pu:Option Addr) (kc kr ke ku m0:Nat) (x:List UInt8) (hm0:m0≤w.heap.size) (hv:ng w (.agg #[.slice pc N.cls.length kc, .slice pr N.rows.length kr, .slice pe N.ends.length ke]) N) (hu:Rd aV w (.slice pu x.length ku) x) (hx:x.length≤140737488351232) (gH:N.zx):
  Calls Tryz.prog 19 #[.agg #[.slice pc N.cls.length kc, .slice pr N.rows.length kr, .slice pe N.ends.length ke], .slice pu x.length ku] w fun e w'=>∃po ko,e= .returned (.tuple #[.slice po (N.pE x).length ko, .bool (N.acc x)])∧mZ m0 w' (.slice po (N.pE x).length ko) (N.pE x)∧Below w.heap.size w w':=by
 refine (adk w N pc pr pe pu kc kr ke ku x hv hu hx gH).mono ?_;rintro e w' ⟨hB,⟨hacc,rfl⟩ | ⟨hacc,lo,hlo,po,ko,rfl,hO⟩⟩
 ·have h:N.pE x=[]:=by unfold NZ.pE;rw [hacc];rfl
  rw [h,hacc];exact ⟨none,0,rfl, .inl ⟨rfl,rfl⟩,hB⟩
 ·have h:N.pE x=lo:=by unfold NZ.pE;rw [if_pos hacc];exact hlo.out.symm
  rw [h,hacc];exact ⟨po,ko,rfl,hO.fresh hm0,hB⟩
theorem aaZ (w:World) (N:NZ) (pc pr pe pu p1 p2 p3 p4 p5:Option Addr) (kc kr ke ku n1 k1 n2 k2 n3 k3 n4 k4 n5 k5:Nat) (most:Int) (m0:Nat) (ρa ρb:List UInt8→iU) (x:List UInt8) (hm0:m0≤w.heap.size) (hx:Ev.W3 x)
  (hv:ng w (.agg #[.slice pc N.cls.length kc, .slice pr N.rows.length kr, .slice pe N.ends.length ke]) N) (hA:Ev.kZ m0 w (.agg #[.slice p1 n1 k1, .slice p2 n2 k2]) ρa) (hA':Ev.kZ m0 w (.agg #[.slice p3 n3 k3, .slice p4 n4 k4]) ρb)
  (hu:mZ m0 w (.slice pu x.length ku) x) (gH:N.zx) (hout:N.acc x=true→Ev.W3 (N.sI x)):
  Calls Tryz.prog 12 #[.agg #[.slice pc N.cls.length kc, .slice pr N.rows.length kr, .slice pe N.ends.length ke], .agg #[.slice p1 n1 k1, .slice p2 n2 k2, .slice p3 n3 k3, .slice p4 n4 k4, .slice p5 n5 k5, .int .i64 most], .slice pu x.length ku] w fun e w'=>e= .returned (.bool (N.zJ ρa ρb x))∧Below w.heap.size w w':=by
 have HV:=Lib.hid hv;have HU:=Lib.hid hu;have HA:=Lib.hid hA;have Uq:=Lib.hid hA';have HX:=Lib.hid hx;have hxl:x.length≤3:=hx.1;clear hv hu hA hA' hx;go_enter Tryz.func12,Tryz.ntmps12;go_upto_region 1 with (fail)
 obtain ⟨W,hW,hB,hs,g0,g1⟩:∃W,((w.alloc (.cells #[.slice pc N.cls.length kc, .slice pr N.rows.length kr, .slice pe N.ends.length ke] 37)).alloc (.cells #[.slice p1 n1 k1, .slice p2 n2 k2, .slice p3 n3 k3, .slice p4 n4 k4, .slice p5 n5 k5, .int .i64 most] 32))=W∧Below w.heap.size w W∧W.heap.size=w.heap.size+2∧W.heap[w.heap.size]?=some (.cells #[.slice pc N.cls.length kc, .slice pr N.rows.length kr, .slice pe N.ends.length ke] 37 (0,0))∧W.heap[w.heap.size+1]?=some (.cells #[.slice p1 n1 k1, .slice p2 n2 k2, .slice p3 n3 k3, .slice p4 n4 k4, .slice p5 n5 k5, .int .i64 most] 32 (0,0)):=by
  refine ⟨_,rfl,ah (ah (ak _ _) (af _) _) (af _) _,by simp,?_,?_⟩
  all_goals repeat (first | (refine dA _ _ _ ?_;(simp;done)) | (refine (o5 _ _ _ ?_).trans ?_;·(simp<;>omega)))
 rw [hW]
 have HC:Hid (∀X:World,Below W.heap.size W X→X.cell? ⟨w.heap.size,0,none⟩=some (.slice pc N.cls.length kc)∧X.cell? ⟨w.heap.size,1,none⟩=some (.slice pr N.rows.length kr)∧X.cell? ⟨w.heap.size,2,none⟩=some (.slice pe N.ends.length ke)∧X.cell? ⟨w.heap.size+1,0,none⟩=some (.slice p1 n1 k1)∧X.cell? ⟨w.heap.size+1,1,none⟩=some (.slice p2 n2 k2)∧X.cell? ⟨w.heap.size+1,2,none⟩=some (.slice p3 n3 k3)∧X.cell? ⟨w.heap.size+1,3,none⟩=some (.slice p4 n4 k4)):=Lib.hid fun X hX=>by
  have h1:=(hX.block w.heap.size (by omega)).trans g0;have h2:=(hX.block (w.heap.size+1) (by omega)).trans g1;refine ⟨?_,?_,?_,?_,?_,?_,?_⟩<;>(unfold World.cell?;first | (rw [h1];rfl) | (rw [h2];rfl))
 clear hW g0 g1 hs;have hBW:Below W.heap.size W W:=ak _ _;obtain ⟨c0,c1,c2,q0,q1,q2,q3⟩:=HC.out W hBW;go_wp2_with fail;refine (HA.out W hB _ x HX.out (HU.out.below hB)).mono ?_;rintro e W1 ⟨rv,rfl,hr1,hl1,hB1⟩;obtain ⟨s1,m1,d1,rfl⟩:=oW hr1;obtain ⟨hb1,HR1⟩:=oK hr1;replace hBW:=hBW.trans ((hB1.trans (hb1.mono hB1.size)).mono hBW.size);clear c0 c1 c2 q0 q1 q2 q3 hr1 hB1 hb1;obtain ⟨c0,c1,c2,q0,q1,q2,q3⟩:=HC.out _ hBW;go_upto_region 2 with (fail);have hz1:W1.heap.size+1=(W1.alloc (.cells #[.bool (ρa x).ok, .int .i64 (ρa x).code, .slice s1 m1 d1] 53)).heap.size:=by simp
 rw [hz1] at HR1;have hs1:W1.heap.size<(W1.alloc (.cells #[.bool (ρa x).ok, .int .i64 (ρa x).code, .slice s1 m1 d1] 53)).heap.size:=by simp
 clear hz1;generalize (W1.alloc (.cells #[.bool (ρa x).ok, .int .i64 (ρa x).code, .slice s1 m1 d1] 53))=X1 at *;generalize W1.heap.size=b1 at *;have hB1:=hB.trans (hBW.mono hB.size);go_wp2_with fail;refine (Uq.out X1 hB1 _ x HX.out (HU.out.below hB1)).mono ?_;rintro e W2 ⟨rv,rfl,hr2,hl2,hB2⟩;obtain ⟨s2,m2,d2,rfl⟩:=oW hr2;obtain ⟨hb2,HR2⟩:=oK hr2;have hX2:=hB2.trans (hb2.mono hB2.size);replace hBW:=hBW.trans (hX2.mono hBW.size);clear c0 c1 c2 q0 q1 q2 q3 hr2 hB2 hb2;obtain ⟨c0,c1,c2,q0,q1,q2,q3⟩:=HC.out _ hBW;go_upto_region 3 with (fail);have hz2:W2.heap.size+1=(W2.alloc (.cells #[.bool (ρb x).ok, .int .i64 (ρb x).code, .slice s2 m2 d2] 53)).heap.size:=by simp
 rw [hz2] at HR2;clear hz2;generalize (W2.alloc (.cells #[.bool (ρb x).ok, .int .i64 (ρb x).code, .slice s2 m2 d2] 53))=X2 at *;generalize W2.heap.size=b2 at *;have hB2:=hB.trans (hBW.mono hB.size);have RA:X1.heap.size≤X2.heap.size:=hX2.size;go_wp2_with fail;refine (aeD X2 N pc pr pe pu kc kr ke ku m0 x (aJ hm0 hB2.size) (HV.out.below hB2) (HU.out.below hB2).rd (by omega) gH).mono ?_;rintro e X3 ⟨po,ko,rfl,hF3,hB3⟩;clear c0 c1 c2 q0 q1 q2 q3;have hlo3:=Zw hout;have HE:Hid (N.zJ ρa ρb x=if (ρa x).alike (ρb x) then N.acc x && (x==N.pE x) else !N.acc x || ((ρa x).ok && ((ρa x).alike (ρa (N.pE x)) && (ρa x).alike (ρb (N.pE x))))):=Lib.hid rfl;generalize N.pE x=lo at *;generalize N.acc x=acc at *;have HL:=Lib.hid hF3;have xR:=Lib.hid hlo3;have hll:lo.length≤3:=hlo3.1;clear hF3 hlo3 hout;have abE:=hB2.trans (hB3.mono hB2.size);have yF:=hBW.trans (hB3.mono hBW.size);obtain ⟨c0,c1,c2,q0,q1,q2,q3⟩:=HC.out X3 yF;go_wp2_with fail;refine (HA.out X3 abE _ lo xR.out HL.out).mono ?_;rintro e W5 ⟨rv,rfl,Ld,hl5,vR⟩;obtain ⟨s5,m5,d5,rfl⟩:=oW Ld;obtain ⟨hb5,Xm⟩:=oK Ld;have oN:=vR.trans (hb5.mono vR.size);have F5:=yF.trans (oN.mono yF.size);clear c0 c1 c2 q0 q1 q2 q3 Ld vR hb5;obtain ⟨c0,c1,c2,q0,q1,q2,q3⟩:=HC.out _ F5;go_upto_region 5 with (fail);have Ez:W5.heap.size+1=(W5.alloc (.cells #[.bool (ρa lo).ok, .int .i64 (ρa lo).code, .slice s5 m5 d5] 53)).heap.size:=by simp
 rw [Ez] at Xm;clear Ez;generalize (W5.alloc (.cells #[.bool (ρa lo).ok, .int .i64 (ρa lo).code, .slice s5 m5 d5] 53))=X5 at *;generalize W5.heap.size=b5 at *;have Kh:=abE.trans (oN.mono abE.size);have ae0:X3.heap.size≤X5.heap.size:=oN.size;go_wp2_with fail;refine (Uq.out X5 Kh _ lo xR.out (HL.out.below oN)).mono ?_;rintro e W6 ⟨rv,rfl,Ui,hl6,gP⟩;obtain ⟨s6,m6,d6,rfl⟩:=oW Ui;obtain ⟨hb6,HR6⟩:=oK Ui;have zu:=gP.trans (hb6.mono gP.size);clear c0 c1 c2 q0 q1 q2 q3 Ui gP hb6;go_upto_region 6 with (fail);have fO:W6.heap.size+1=(W6.alloc (.cells #[.bool (ρb lo).ok, .int .i64 (ρb lo).code, .slice s6 m6 d6] 53)).heap.size:=by simp
 rw [fO] at HR6;clear fO;generalize (W6.alloc (.cells #[.bool (ρb lo).ok, .int .i64 (ρb lo).code, .slice s6 m6 d6] 53))=X6 at *;generalize W6.heap.size=b6 at *;have adU:=oN.trans (zu.mono ae0);have MN:=hB3.trans (adU.mono hB3.size);have Qj:=Kh.trans (zu.mono Kh.size);obtain ⟨hra,a0,a1,a2⟩:=HR1.out X6 (hX2.trans (MN.mono RA));obtain ⟨hrb,e0,e1,e2⟩:=HR2.out X6 MN;go_wp2_with fail;refine (wL X6 _ _ (ρa x) (ρb x) hra hrb (by omega)).mono ?_;rintro e X7 ⟨rfl,fD⟩;clear a0 a1 a2 e0 e1 e2 hra hrb;have ab6:X5.heap.size≤X6.heap.size:=zu.size;have yA:=Qj.trans (fD.mono Qj.size);have abr:=MN.trans (fD.mono MN.size);cases hal:(ρa x).alike (ρb x) with
 | true=>
  have HF:Hid (N.zJ ρa ρb x=(acc && (x==lo))):=Lib.hid (by rw [HE.out,if_pos hal]);clear hal HE;cases acc with
  | false=>
   go_wp2;go_ret;exact ⟨by rw [HF.out];rfl,yA⟩
  | true=>
   have hux:=(HU.out.below yA).rd;have huy:=((HL.out.below adU).below fD).rd;have hq:=O3 x lo
   go_wp2_with (first
    | ((with_reducible refine nY (.tmp 56) ?_ ?_ Tryz.underlying22 Tryz.underlying5 Tryz.underlying9 ?_ hux rfl ?_);rfl;rfl;rfl)
    | ((with_reducible refine nY (.tmp 58) ?_ ?_ Tryz.underlying22 Tryz.underlying5 Tryz.underlying9 ?_ huy rfl ?_);rfl;rfl;rfl))
   go_ret;exact ⟨by rw [HF.out];rfl,yA⟩
 | false=>
  have HF:Hid (N.zJ ρa ρb x=(!acc || ((ρa x).ok && ((ρa x).alike (ρa lo) && (ρa x).alike (ρb lo))))):=Lib.hid (by rw [HE.out,if_neg (by rw [hal];simp)]);clear hal HE;cases acc with
  | false=>
   go_wp2;go_ret;exact ⟨by rw [HF.out];rfl,yA⟩
  | true=>
   obtain ⟨hra,a0,a1,a2⟩:=HR1.out X7 (hX2.trans (abr.mono RA));obtain ⟨hrc,e0,e1,e2⟩:=Xm.out X7 (zu.trans (fD.mono ab6));cases hok:(ρa x).ok with
   | false=>
    rw [hok] at a0;have NB:Hid (N.zJ ρa ρb x=false):=Lib.hid (by rw [HF.out,hok];rfl);clear hra hok hrc;go_wp2;go_ret;exact ⟨by rw [NB.out];rfl,yA⟩
   | true=>
    rw [hok] at a0 hra;have NB:Hid (N.zJ ρa ρb x=((ρa x).alike (ρa lo) && (ρa x).alike (ρb lo))):=Lib.hid (by rw [HF.out,hok];rfl);have jq:=Lib.hid hok;clear hok HF;go_wp2_with fail;refine (wL X7 _ _ (ρa x) (ρa lo) hra hrc (by omega)).mono ?_;rintro e X8 ⟨rfl,jf⟩;clear a0 a1 a2 e0 e1 e2 hra hrc;have abB:=yA.trans (jf.mono yA.size);cases zZ:(ρa x).alike (ρa lo) with
    | false=>
     have TA:Hid (N.zJ ρa ρb x=false):=Lib.hid (by rw [NB.out,zZ];rfl);clear zZ;go_wp2;go_ret;exact ⟨by rw [TA.out];rfl,abB⟩
    | true=>
     have TA:Hid (N.zJ ρa ρb x=(ρa x).alike (ρb lo)):=Lib.hid (by rw [NB.out,zZ];rfl);clear zZ;obtain ⟨hra,a0,a1,a2⟩:=HR1.out X8 (hX2.trans ((abr.trans (jf.mono abr.size)).mono RA));obtain ⟨hrd,f0,f1,f2⟩:=HR6.out X8 (fD.trans (jf.mono fD.size));rw [jq.out] at a0 hra;go_wp2_with fail;refine (wL X8 _ _ (ρa x) (ρb lo) hra hrd (by omega)).mono ?_;rintro e X9 ⟨rfl,GM⟩;clear a0 a1 a2 f0 f1 f2 hra hrd;go_wp2;go_ret;exact ⟨by rw [TA.out];rfl,abB.trans (GM.mono abB.size)⟩
end Go.Proofs.YtncnfncglacheaaGreatDoor
