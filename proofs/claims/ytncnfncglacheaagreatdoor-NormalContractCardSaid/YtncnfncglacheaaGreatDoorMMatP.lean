/- Part of a proof. -/
import Derived.Test.YtncnfncglacheaaGreatDoorMSomeOk
set_option linter.all false
set_option maxRecDepth 100000
set_option maxHeartbeats 64000000
namespace Go.Proofs.YtncnfncglacheaaGreatDoor
open Go Go.RowKit Mem
abbrev zP:=Nat×TypeId×List OC
structure iX (w W:World) (R:List zP):Prop where
 b:Below w.heap.size w W
 r:∀x∈R,w.heap.size≤x.1∧Row oV W x.1 x.2.1 x.2.2
 nd:(R.map (·.1)).Nodup
theorem iX.row {w W:World} {R:List zP} (h:iX w W R) {b:Nat} {t:TypeId} {l:List OC} (hm:(b,t,l)∈R):Row oV W b t l:=(h.r _ hm).2
theorem iX.le {w W:World} {R:List zP} (h:iX w W R) {b:Nat} {t:TypeId} {l:List OC} (hm:(b,t,l)∈R):w.heap.size≤b:=(h.r _ hm).1
theorem iX.up {w W X:World} {R:List zP} (h:iX w W R) (hB:Below W.heap.size W X):iX w X R:=
 ⟨h.b.trans (hB.mono h.b.size),fun x hx=>⟨(h.r x hx).1,(h.r x hx).2.below hB (h.r x hx).2.lt⟩,h.nd⟩
theorem iX.drewN {w W:World} {R:List zP} (h:iX w W R) (n:Nat):iX w (W.drewN n) R:=h.up (nJ _ _ _)
theorem iX.add {w W X:World} {R:List zP} (h:iX w W R) (hB:Below W.heap.size W X) {b:Nat} {t:TypeId} {l:List OC} (hr:Row oV X b t l) (hb:W.heap.size≤b):iX w X (R++[(b,t,l)]):=by
 have h2:=h.up hB;refine ⟨h2.b,fun x hx=> ?_,?_⟩
 ·rw [pO,jN] at hx;rcases hx with hx | rfl
  ·exact h2.r x hx
  ·exact ⟨aJ h.b.size hb,hr⟩
 ·rw [wV,qcR];refine ⟨h.nd,by simp,fun a ha c hc=> ?_⟩;obtain ⟨x,hx,rfl⟩:=uW.1 ha;have:=(h.r x hx).2.lt;simp only [Fg,Q8,jN] at hc;omega
theorem iX.alloc {w W:World} {R:List zP} (h:iX w W R) {t:TypeId} {l:List OC} (o:Obj) (ho:o= .cells (l.map oV).toArray t (0,0)):iX w (W.alloc o) (R++[(W.heap.size,t,l)]):=
 h.add ((ak _ _).alloc (af _) _) (Row.new _ _ ho) (af _)
theorem iX.set {w W:World} {R1 R2:List zP} {b:Nat} {t:TypeId} {l:List OC} (h:iX w W (R1++(b,t,l)::R2)) (i:Nat) (x:OC):iX w (W.setCell ⟨b,i,none⟩ x.1) (R1++(b,t,l.set i x)::R2):=by
 have hb:=h.r (b,t,l) (by simp);refine ⟨aM h.b i hb.1 _,fun y hy=> ?_,by have:=h.nd;simpa using this⟩;have hnd:=h.nd;rw [wV,Fg,qcR] at hnd;obtain ⟨_,n2,n3⟩:=hnd;rw [List.nodup_cons] at n2;rw [pO,nX] at hy;rcases hy with hy | rfl | hy
 ·have h1:=h.r y (by simp [hy]);exact ⟨h1.1,h1.2.ai (fun e=>n3 y.1 (List.mem_map_of_mem hy) b (by simp) e) i _⟩
 ·exact ⟨hb.1,hb.2.set i x⟩
 ·have h1:=h.r y (by simp [hy]);exact ⟨h1.1,h1.2.ai (fun e=>n2.1 (uW.2 ⟨y,hy,e⟩)) i _⟩
theorem iX.at {w W:World} {R:List zP} (h:iX w W R) (k:Nat) {b:Nat} {t:TypeId} {l:List OC} (e:R[k]?=some (b,t,l)):Row oV W b t l:=h.row (qcc e)
theorem iX.setAt {w W:World} {R:List zP} (h:iX w W R) (k:Nat) {b:Nat} {t:TypeId} {l:List OC} (e:R[k]?=some (b,t,l)) (i:Nat) (x:OC):iX w (W.setCell ⟨b,i,none⟩ x.1) (R.set k (b,t,l.set i x)):=by
 obtain ⟨hk,he⟩:=JN.1 e
 have h1:R=R.take k++(b,t,l)::R.drop (k+1):=by
  rw [← he,← qcb hk,qct]
 rw [h1] at h;have h2:=h.set i x;rw [List.set_eq_take_append_cons_drop,if_pos hk];exact h2
theorem wE {w:World} {b:Nat} {t:TypeId} {l:List Bool} (h:Row oV w b t (l.map ob)):Row Value.bool w b t l:=by
 unfold Row at *;rw [h,Lx];rfl
theorem UC {w:World} {b:Nat} {t:TypeId} {l:List UInt64} (h:Row uV w b t l):Row oV w b t (l.map fun x=>ow (X x)):=by
 unfold Row at *;rw [h,Lx];rfl
theorem Hl {w:World} {b:Nat} {t:TypeId} {l:List UInt64} (h:Row oV w b t (l.map fun x=>ow (X x))):Row uV w b t l:=by
 unfold Row at *;rw [h,Lx];rfl
theorem EG {α:Type} {f:α→Value} {w:World} {b:Nat} {t:TypeId} {l:List α} (h:Row f w b t l) {n:Nat} (hn:n=l.length):Rd f w (.slice (some ⟨b,0,none⟩) n n) l:=by
 subst hn;exact .inr ⟨b,0,_,rfl,af _,fun i hi=>by rw [oq,h.cell?],h.lt⟩
def oJ (x:UInt64):Bool:=(x &&& 1)==1
def qK (n:Nat):List Bool:=List.replicate n false++[true]
def lv1 (R1:DF) (b:List UInt8):List UInt64:=vJ R1 b (qK b.length) (b.length+1)
def lt1 (R1:DF) (b:List UInt8):List Bool:=(lv1 R1 b).map oJ
def lv0 (R0 R1:DF) (b:List UInt8):List UInt64:=vJ R0 b (lt1 R1 b) (b.length+1)
def lt0 (R0 R1:DF) (b:List UInt8):List Bool:=(lv0 R0 R1 b).map oJ
def FY (R0 R1:DF) (f0:Bool) (b:List UInt8):Int:=Ch R0 b (lt1 R1 b) (lv0 R0 R1 b) f0 (b.length+1) 0 0 (-1)
def U8 (R1:DF) (f1:Bool) (b:List UInt8) (a:Nat):Int:=Ch R1 b (qK b.length) (lv1 R1 b) f1 (b.length+1 - a) a 0 (-1)
def ZZ (R0 R1:DF) (f0 f1:Bool) (b:List UInt8):Option (Int×Int):=if (lt0 R0 R1 b).getD 0 false then some (FY R0 R1 f0 b,U8 R1 f1 b (FY R0 R1 f0 b).toNat) else none
def kC (l:List UInt64):Nat→List Bool
 | 0=>List.replicate l.length false
 | k+1=>(kC l k).set k (oJ (l.getD k 0))
theorem yY (l:List UInt64) (k:Nat):(kC l k).length=l.length:=by
 induction k with
 | zero=>simp [kC]
 | succ k ih=>rw [kC,qz,ih]
theorem VO (l:List UInt64) (k:Nat):∀j,j<l.length→(kC l k)[j]?=some (if j<k then oJ (l.getD j 0) else false):=by
 induction k with
 | zero=>intro j hj;simp [kC,hj]
 | succ k ih=>
  intro j hj;rw [kC,Lb];by_cases e:k=j
  ·subst e;rw [if_pos rfl,if_pos (by rw [yY];exact hj),if_pos (by omega)]
  ·rw [if_neg e,ih j hj];by_cases h:j<k
   ·rw [if_pos h,if_pos (by omega)]
   ·rw [if_neg h,if_neg (by omega)]
theorem LV (l:List UInt64):kC l l.length=l.map oJ:=by
 apply Pw;intro j;by_cases hj:j<l.length
 ·rw [VO l _ j hj,if_pos hj,kJ,bK hj,dJ,bK hj];rfl
 ·rw [qJ (by rw [yY];omega),qJ (by simp;omega)]
theorem ac1 (n:Nat):(List.replicate (n+1) false).set n true=qK n:=by
 unfold qK;apply Pw;intro j;rw [Lb];by_cases e:n=j
 ·subst e;rw [if_pos rfl,if_pos (by simp),JV (by simp)];simp
 ·rw [if_neg e,Yd];by_cases h:j<n
  ·rw [if_pos (by omega),Jl (by simpa using h),Yd,if_pos h]
  ·rw [if_neg (by omega),qJ (by simp;omega)]
theorem Ct (n:Nat):(qK n).length=n+1:=by simp [qK]
theorem Po (s:UInt64):(bits .and .u64 (X s) 1==1)=oJ s:=by
 rw [show (1:Int)=X 1 from rfl,qc];unfold oJ;rw [Dr,beq_iff_eq,beq_iff_eq];exact ⟨fun e=>rJ e,fun e=>by rw [e]⟩
def Ei (x:Int×Int):List OC:=[oi x.1,oi x.2]
theorem P8 (x:Int×Int):(Ei x).length=2:=rfl
theorem Zx:bR Tryz.prog 275 2:=⟨fun _=>by kernel_rfl,fun _=>by kernel_rfl⟩
theorem MR {W:World} {base:Nat} {e:TypeId} {bl:Nat} {x0 x1:Int×Int} (h:aP 2 Ei W base e (.slice (some ⟨bl,0,none⟩) 2 2) [x0,x1]):At oV W bl 0 [oi x0.1,oi x0.2,oi x1.1,oi x1.2]:=by
 rcases h.2 with ⟨h0,_⟩ | ⟨g2,cap,cur,he,hbg,hc,hn,hm,hs,ht⟩
 ·cases h0
 ·injection he with he1 he2 GZ
  injection he1 with he1
  injection he1 with he1 _ _
  subst he1 GZ;intro i hi;have hi:i<4:=hi;unfold World.cell?;rw [hc];have h1:cur.toList[i]?=(cur.toList.take (2 * 2))[i]?:=by rw [List.getElem?_take,if_pos hi]
  rw [← kJ];have h2:([oi x0.1,oi x0.2,oi x1.1,oi x1.2].map oV)=((List.flatMap Ei [x0,x1]).map oV):=by simp [List.flatMap,Ei]
  rw [h2,← ht,oq];exact (qc0 (xs:=cur) (i:=i)).symm.trans h1
theorem Uw {W:World} {base:Nat} {e:TypeId} {bl:Nat} {x0 x1:Int×Int} (h:aP 2 Ei W base e (.slice (some ⟨bl,0,none⟩) 2 2) [x0,x1]):Row oV W bl e [oi x0.1,oi x0.2,oi x1.1,oi x1.2]:=by
 rcases h.2 with ⟨h0,_⟩ | ⟨g2,cap,cur,he,hbg,hc,hn,hm,hs,ht⟩
 ·cases h0
 ·injection he with he1 he2 GZ
  injection he1 with he1
  injection he1 with he1 _ _
  subst he1 GZ;have hl:cur.toList.length≤2 * 2:=by rw [Gm (xs:=cur),hs];exact af _
  have h2:([oi x0.1,oi x0.2,oi x1.1,oi x1.2].map oV)=((List.flatMap Ei [x0,x1]).map oV):=by simp [List.flatMap,Ei]
  have h3:cur.toList=[oi x0.1,oi x0.2,oi x1.1,oi x1.2].map oV:=by
   rw [h2,← ht];exact (pM hl).symm
  unfold Row;rw [hc,← h3]
theorem ab4 {w:World} {x:OC×OC×OC} {D:DF} (hd:dm w (.agg #[x.1.1,x.2.1.1,x.2.2.1]) D) (h:D.cls.length≤256):
  Calls Tryz.prog 219 #[.agg #[x.1.1,x.2.1.1,x.2.2.1]] w fun e w'=>∃mb,e= .returned (.pointer (some ⟨mb,0,none⟩))∧w.heap.size≤mb∧Row oV w' mb 358 (kN x.1 x.2.1 x.2.2 D.cell)∧Below w.heap.size w w':=by
 obtain ⟨⟨xa,ha⟩,⟨xb,hb⟩,⟨xc,hc⟩⟩:=x;obtain ⟨vc,vn,va,e,q1,q2,q3⟩:=hd;injection e with e
 simp only [SC,GK,and_true] at e;obtain ⟨rfl,rfl,rfl⟩:=e;obtain ⟨p1,k1,rfl⟩:=q1.slice;obtain ⟨p2,k2,rfl⟩:=q2.slice;obtain ⟨p3,k3,rfl⟩:=q3.slice;exact RX w p1 p2 p3 _ k1 _ k2 _ k3 D.cls q1 h
theorem U7 {w W:World} {x:OC×OC×OC} {D:DF} {mb:Nat} (hd:dm w (.agg #[x.1.1,x.2.1.1,x.2.2.1]) D) (hW:Below w.heap.size w W) (hr:Row oV W mb 358 (kN x.1 x.2.1 x.2.2 D.cell)):uz W mb D:=by
 obtain ⟨vc,vn,va,e,q1,q2,q3⟩:=hd;injection e with e
 simp only [SC,GK,and_true] at e;obtain ⟨rfl,rfl,rfl⟩:=e;exact ⟨_,_,_,hr,q2.below' hW,q3.below hW⟩
def OH (w w':World) (e:Ending):Option (Int×Int)→Prop
 | none=>e= .returned (.tuple #[.slice none 0 0, .bool false])
 | some (t0,t1)=>∃x,e= .returned (.tuple #[.slice (some ⟨x,0,none⟩) 2 2, .bool true])∧w.heap.size≤x∧Row oV w' x 275 [oi 0,oi t0,oi t0,oi t1]
def opt (v:Option Addr):OC:=⟨.pointer v,rfl⟩
theorem abV (w:World) (pp cap kV kW n0 n1 n kb:Nat) (f0 f1:Bool) (c0 c1:Cl) (R0 R1:DF) (pb:Option Addr) (b:List UInt8) (h0:At oV w pp 0 (GU kV n0 f0)) (h1:At oV w pp 2 (GU kW n1 f1)) (Jy:pp<w.heap.size) (hr0:rZ w kV c0) (hr1:rZ w kW c1) (uR:R0.Ok) (lK:R1.Ok) (ac5:R0.nx.length≤64) (ado:R1.nx.length≤64) (abo:R0.cls.length≤256) (aaz:R1.cls.length≤256) (hB0:gD c0 R0) (hB1:gD c1 R1) (hT:gV w) (htl:1<w.heap.size) (hb:Rd aV w (.slice pb n kb) b) (hn:n≤60000) (hend:∃a:Nat,FY R0 R1 f0 b=a∧a≤n):
  Calls Tryz.prog 169 #[.slice (some ⟨pp,0,none⟩) 2 cap, .slice pb n kb] w fun e w'=>OH w w' e (ZZ R0 R1 f0 f1 b)∧Below w.heap.size w w':=by
 have HA:=Lib.hid (Ga w pp cap kV kW n0 n1 f0 f1 c0 c1 R0 R1 h0 h1 Jy hr0 hr1 uR lK hB0 hB1 hT htl);have HP:=Lib.hid (And.intro h0 (And.intro h1 Jy));have HO:=Lib.hid (And.intro uR (And.intro lK (And.intro ac5 (And.intro ado (And.intro abo aaz)))));have HB:=Lib.hid hb;have HE:=Lib.hid hend;have HL:Hid (n=b.length):=Lib.hid hb.len;clear h0 h1 Jy hr0 hr1 uR lK ac5 ado abo aaz hB0 hB1 hT htl hb hend;have m1:∀w:World,(Instr.makeSlice 322 (.int .i64 2) (.int .i64 2)).run Tryz.prog w= .ok (.slice (some ⟨w.heap.size,0,none⟩) 2 2) (w.alloc (.cells #[.pointer none, .pointer none] 325)):=fun w=>by first | rfl | kernel_rfl
 have m2:∀w:World,(Instr.makeSlice 323 (.int .i64 3) (.int .i64 3)).run Tryz.prog w= .ok (.slice (some ⟨w.heap.size,0,none⟩) 3 3) (w.alloc (.cells #[.slice none 0 0, .slice none 0 0, .slice none 0 0] 35)):=fun w=>by first | rfl | kernel_rfl
 have m3:∀w:World,(Instr.makeSlice 324 (.int .i64 2) (.int .i64 2)).run Tryz.prog w= .ok (.slice (some ⟨w.heap.size,0,none⟩) 2 2) (w.alloc (.cells #[.slice none 0 0, .slice none 0 0] 327)):=fun w=>by first | rfl | kernel_rfl
 obtain ⟨C0,qU⟩:∃C,Hid (((List.replicate (n+1) false).map Value.bool).toArray=C):=⟨_,Lib.hid rfl⟩
 have m4:∀w:World,(Instr.makeSlice 35 (.int .i64 ((n:Int)+1)) (.int .i64 ((n:Int)+1))).run Tryz.prog w= .ok (.slice (some ⟨w.heap.size,0,none⟩) (n+1) (n+1)) (w.alloc (.cells C0 4)):=fun w=>by
  have h:=QZ w (n+1) (by omega);rw [show ((n+1:Nat):Int)=(n:Int)+1 by omega,qU.out] at h;exact h
 go_enter Tryz.func169,Tryz.ntmps169;go_upto_region 2 with (first | (go_at_call 201;refine HA.out.mono ?_;rintro e W1 ⟨lb,x0,x1,rfl,hP,hB1⟩));have HB1:=Lib.hid hB1;have K8:=Lib.hid hP;have HR:=Lib.hid (HB.out.below hB1);have HQ:=Lib.hid (And.intro (HP.out.1.below hB1 HP.out.2.2) (HP.out.2.1.below hB1 HP.out.2.2));have HpW:=Lib.hid (bJ HP.out.2.2 hB1.size);have hS0:iX W1 W1 []:=⟨ak _ _,by simp,by simp⟩
 clear hP hB1;go_upto_region 5 with (fail);have hS1:=hS0.alloc (l:=[opt none,opt none]) (t:=325) (.cells #[.pointer none, .pointer none] 325) rfl;clear hS0;have z1:(W1.alloc (.cells #[.pointer none, .pointer none] 325)).heap.size=W1.heap.size+1:=bO _ _;clear m1;generalize W1.alloc (.cells #[.pointer none, .pointer none] 325)=W2 at *;go_upto_region 6 with (fail);have hS2:=hS1.alloc (l:=[on,on,on]) (t:=35) (.cells #[.slice none 0 0, .slice none 0 0, .slice none 0 0] 35) rfl;have z2:(W2.alloc (.cells #[.slice none 0 0, .slice none 0 0, .slice none 0 0] 35)).heap.size=W1.heap.size+2:=by rw [bO,z1]
 rw [z1] at hS2;clear m2 hS1 z1;generalize W2.alloc (.cells #[.slice none 0 0, .slice none 0 0, .slice none 0 0] 35)=W3 at *;clear W2;go_upto_region 7 with (fail);have dY:=hS2.alloc (l:=[on,on]) (t:=327) (.cells #[.slice none 0 0, .slice none 0 0] 327) rfl;have z3:(W3.alloc (.cells #[.slice none 0 0, .slice none 0 0] 327)).heap.size=W1.heap.size+3:=by rw [bO,z2]
 rw [z2] at dY;clear m3 hS2 z2;generalize W3.alloc (.cells #[.slice none 0 0, .slice none 0 0] 327)=W4 at *;clear W3;obtain ⟨B,OY⟩:∃q,Hid (W1.heap.size=q):=⟨_,Lib.hid rfl⟩
 rw [OY.out] at z3 ⊢;replace dY:iX W1 W4 [(B,325,[opt none,opt none]),(B+1,35,[on,on,on]),(B+2,327,[on,on])]:=OY.out▸dY;have r4:=dY.at 1 rfl;have q4:=r4.frozen 2;have c4:W4.cell? ⟨B+1,2,none⟩=some (.slice none 0 0):=by rw [r4.cell?];rfl
 have uH:=dY.setAt 1 rfl 2 ⟨.slice (some ⟨B+3,0,none⟩) (n+1) (n+1),rfl⟩;have hS5:=uH.alloc (l:=(List.replicate (n+1) false).map ob) (t:=4) (.cells C0 4) (by rw [← qU.out,Lx];rfl);have z5:((W4.setCell ⟨B+1,2,none⟩ (.slice (some ⟨B+3,0,none⟩) (n+1) (n+1))).alloc (.cells C0 4)).heap.size=B+4:=by rw [bO,qcn,z3]
 rw [qcn,z3] at hS5;go_upto_region 8 with (fail);replace hS5:iX W1 ((W4.setCell ⟨B+1,2,none⟩ (.slice (some ⟨B+3,0,none⟩) (n+1) (n+1))).alloc (.cells C0 4)) [(B,325,[opt none,opt none]),(B+1,35,[on,on,⟨.slice (some ⟨B+3,0,none⟩) (n+1) (n+1),rfl⟩]),(B+2,327,[on,on]),(B+3,4,(List.replicate (n+1) false).map ob)]:=hS5;generalize ((W4.setCell ⟨B+1,2,none⟩ (.slice (some ⟨B+3,0,none⟩) (n+1) (n+1))).alloc (.cells C0 4))=W5 at *;clear r4 q4 c4 uH dY z3;clear W4;have c4:W5.cell? ⟨B+1,2,none⟩=some (.slice (some ⟨B+3,0,none⟩) (n+1) (n+1)):=by rw [(hS5.at 1 rfl).cell?];rfl
 have r5:=hS5.at 3 rfl;have q5:=r5.frozen n;have c5:W5.cell? ⟨B+3,n,none⟩=some (.bool false):=by rw [r5.cell?];simp;rfl
 have Ak:=hS5.setAt 3 rfl n (ob true);rw [← Um,ac1] at Ak;have z6:(W5.setCell ⟨B+3,n,none⟩ (.bool true)).heap.size=B+4:=by rw [qcn,z5]
 go_upto_region 9 with (fail);replace Ak:iX W1 (W5.setCell ⟨B+3,n,none⟩ (.bool true)) [(B,325,[opt none,opt none]),(B+1,35,[on,on,⟨.slice (some ⟨B+3,0,none⟩) (n+1) (n+1),rfl⟩]),(B+2,327,[on,on]),(B+3,4,(qK n).map ob)]:=Ak;generalize W5.setCell ⟨B+3,n,none⟩ (.bool true)=W6 at *;clear r5 q5 c5 c4 hS5 z5;clear W5;go_wp2_with fail;refine wp_loop_rounds 3 ?_;refine aj (n:=2) ?_;have hA1:At oV W6 lb 3 (ru x1):=K8.out.a1.below Ak.b K8.out.lt
 go_upto_region 13 with (first
  | ((with_reducible refine zL hA1 bN rfl (C:=#[x1.1.1,x1.2.1.1,x1.2.2.1]) ?_))
  | (go_at_call 219;refine (ab4 (K8.out.d1.below Ak.b) HO.out.2.2.2.2.2).mono ?_;rintro e W7 ⟨jW,rfl,hmb,hmr,fD⟩;(have sM:=Ak.add fD hmr hmb);(have q7:=(sM.at 0 rfl).frozen 1);(have c7:W7.cell? ⟨B,1,none⟩=some (.pointer none):=by rw [(sM.at 0 rfl).cell?];rfl)))
 have wM:=sM.setAt 0 rfl 1 (opt (some ⟨jW,0,none⟩));replace wM:iX W1 (W7.setCell ⟨B,1,none⟩ (.pointer (some ⟨jW,0,none⟩))) [(B,325,[opt none,opt (some ⟨jW,0,none⟩)]),(B+1,35,[on,on,⟨.slice (some ⟨B+3,0,none⟩) (n+1) (n+1),rfl⟩]),(B+2,327,[on,on]),(B+3,4,(qK n).map ob),(jW,358,kN x1.1 x1.2.1 x1.2.2 R1.cell)]:=wM;clear hA1 q7 c7 sM hmb hmr fD Ak z6;generalize W7.setCell ⟨B,1,none⟩ (.pointer (some ⟨jW,0,none⟩))=W8 at *;clear W7 W6;have KX:=wM.drewN 1;change iX W1 W8.drew _ at KX;go_wp2_with fail;refine aC (S:=fun XX=>iX W1 XX [(B,325,[opt none,opt (some ⟨jW,0,none⟩)]),(B+1,35,[on,on,⟨.slice (some ⟨B+3,0,none⟩) (n+1) (n+1),rfl⟩]),(B+2,327,[on,on]),(B+3,4,(qK n).map ob),(jW,358,kN x1.1 x1.2.1 x1.2.2 R1.cell)]) 13 rfl (by kernel_rfl) KX fun hS=> ?_;clear wM KX;generalize W8.drew=W9 at *;clear W8;refine tk 0 66 (.slice (some ⟨B+2,0,none⟩) 2 2) hS ?_;refine tk 1 67 (.int .i64 1) hS ?_;refine tk 2 68 (.slice (some ⟨B,0,none⟩) 2 2) hS ?_;refine tk 3 69 (.int .i64 1) hS ?_;refine tk 4 70 (.pointer (some ⟨B,1,none⟩)) hS ?_;refine tk 5 71 (.pointer (some ⟨jW,0,none⟩)) hS ?_ (hy:= .inl ⟨by first | rfl | kernel_rfl,fun W' h=>by have q0:W'.cell? ⟨B,1,none⟩=some (.pointer (some ⟨jW,0,none⟩)):=(by rw [(h.at 0 rfl).cell?];rfl);go_simp⟩);refine tk 6 72 (.slice pb n kb) hS ?_;refine tk 7 73 (.slice (some ⟨B+1,0,none⟩) 3 3) hS ?_;refine tk 8 74 (.int .i64 1) hS ?_;refine tk 9 75 (.int .i64 2) hS ?_;refine tk 10 76 (.pointer (some ⟨B+1,2,none⟩)) hS ?_;refine tk 11 77 (.slice (some ⟨(B+3),0,none⟩) (n+1) (n+1)) hS ?_ (hy:= .inl ⟨by first | rfl | kernel_rfl,fun W' h=>by have q0:W'.cell? ⟨B+1,2,none⟩=some (.slice (some ⟨(B+3),0,none⟩) (n+1) (n+1)):=(by rw [(h.at 1 rfl).cell?];rfl);go_simp⟩);refine iT 12 (fun K' hK=> ?_);refine cD 78 220 #[.pointer (some ⟨jW,0,none⟩), .slice pb n kb, .slice (some ⟨(B+3),0,none⟩) (n+1) (n+1)] ?_;have hL1:=aaV W9 jW n (n+1) kb (n+1) R1 pb (some ⟨(B+3),0,none⟩) b (qK n) (U7 K8.out.d1 hS.b (hS.at 4 rfl)) HO.out.2.1 HO.out.2.2.2.1 (HR.out.below hS.b) (EG (wE (hS.at 3 rfl)) (by first | exact (Ct n).symm | exact HL1.out.symm)) (by omega) (by omega);refine hL1.mono ?_;rintro e mV ⟨nu,rfl,hbl,hbr,J2⟩;refine ⟨_,rfl,hK.out _ _ (hS.up J2) fun hx=> ?_⟩;have CK:=hS.add J2 (UC hbr) hbl;clear hK hL1 J2 hbl hbr hS hx;clear K';simp only [sA,sB,sC];refine aL (by kernel_rfl) ?_;have q10:=(CK.at 2 rfl).frozen 1;have c10:mV.cell? ⟨B+2,1,none⟩=some (.slice none 0 0):=by rw [(CK.at 2 rfl).cell?];rfl
 go_upto_region 14 with (fail);have pG:=CK.setAt 2 rfl 1 ⟨.slice (some ⟨nu,0,none⟩) (n+1) (n+1),rfl⟩;obtain ⟨V1,HV1⟩:∃V,Hid (vJ R1 b (qK n) (n+1)=V):=⟨_,Lib.hid rfl⟩
 have BH:Hid (V1.length=n+1):=Lib.hid (by rw [← HV1.out,Jz,HL.out]);rw [HV1.out] at pG;replace pG:iX W1 (mV.setCell ⟨B+2,1,none⟩ (.slice (some ⟨nu,0,none⟩) (n+1) (n+1))) [(B,325,[opt none,opt (some ⟨jW,0,none⟩)]),(B+1,35,[on,on,⟨.slice (some ⟨B+3,0,none⟩) (n+1) (n+1),rfl⟩]),(B+2,327,[on,⟨.slice (some ⟨nu,0,none⟩) (n+1) (n+1),rfl⟩]),(B+3,4,(qK n).map ob),(jW,358,kN x1.1 x1.2.1 x1.2.2 R1.cell),(nu,63,V1.map fun x=>ow (X x))]:=pG;clear q10 c10 CK;generalize mV.setCell ⟨B+2,1,none⟩ (.slice (some ⟨nu,0,none⟩) (n+1) (n+1))=EN at *;clear W9 mV;have q11:=(pG.at 1 rfl).frozen 1;have c11:EN.cell? ⟨B+1,1,none⟩=some (.slice none 0 0):=by rw [(pG.at 1 rfl).cell?];rfl
 obtain ⟨kM,aen⟩:∃q,Hid (EN.heap.size=q):=⟨_,Lib.hid rfl⟩
 have qW:=(pG.setAt 1 rfl 1 ⟨.slice (some ⟨kM,0,none⟩) (n+1) (n+1),rfl⟩).alloc (l:=(List.replicate (n+1) false).map ob) (t:=4) (.cells C0 4) (by rw [← qU.out,Lx];rfl);rw [qcn,aen.out] at qW;rw [show (List.replicate (n+1) false)=kC V1 0 by rw [kC,BH.out]] at qW;have g11:B+1<EN.heap.size:=(pG.at 1 rfl).lt;have g12:¬B+1=EN.heap.size:=by omega
 go_upto_region 15 with (fail);rw [aen.out];replace qW:iX W1 ((EN.setCell ⟨B+1,1,none⟩ (.slice (some ⟨kM,0,none⟩) (n+1) (n+1))).alloc (.cells C0 4)) [(B,325,[opt none,opt (some ⟨jW,0,none⟩)]),(B+1,35,[on,⟨.slice (some ⟨kM,0,none⟩) (n+1) (n+1),rfl⟩,⟨.slice (some ⟨B+3,0,none⟩) (n+1) (n+1),rfl⟩]),(B+2,327,[on,⟨.slice (some ⟨nu,0,none⟩) (n+1) (n+1),rfl⟩]),(B+3,4,(qK n).map ob),(jW,358,kN x1.1 x1.2.1 x1.2.2 R1.cell),(nu,63,V1.map fun x=>ow (X x)),(kM,4,(kC V1 0).map ob)]:=qW;generalize ((EN.setCell ⟨B+1,1,none⟩ (.slice (some ⟨kM,0,none⟩) (n+1) (n+1))).alloc (.cells C0 4))=Om at *;clear q11 c11 pG g11 g12;have c12:Om.cell? ⟨B+2,1,none⟩=some (.slice (some ⟨nu,0,none⟩) (n+1) (n+1)):=by rw [(qW.at 2 rfl).cell?];rfl
 go_upto_region 16 with (fail);clear c12
 go_loopw [92] (fun R4 wr=>∃k:Nat,k≤n+1∧R4= .int .i64 k∧iX W1 wr [(B,325,[opt none,opt (some ⟨jW,0,none⟩)]),(B+1,35,[on,⟨.slice (some ⟨kM,0,none⟩) (n+1) (n+1),rfl⟩,⟨.slice (some ⟨B+3,0,none⟩) (n+1) (n+1),rfl⟩]),(B+2,327,[on,⟨.slice (some ⟨nu,0,none⟩) (n+1) (n+1),rfl⟩]),(B+3,4,(qK n).map ob),(jW,358,kN x1.1 x1.2.1 x1.2.2 R1.cell),(nu,63,V1.map fun x=>ow (X x)),(kM,4,(kC V1 k).map ob)]) (fun R4 _=>n+1 - (intOf R4).toNat)
 case atStart=>exact ⟨0,by omega,rfl,qW⟩
 case round=>
  clear qW;obtain ⟨k,hk,rfl,hS⟩:=hrel;by_cases hlt:k<n+1
  ·have hq:(k:Int)<(n:Int)+1:=by omega
   have cv:wr.cell? ⟨nu,k,none⟩=some (.int .u64 (X (V1.getD k 0))):=Da (Hl (hS.at 5 rfl)) k (by rw [BH.out];exact hlt);have cl:wr.cell? ⟨B+1,1,none⟩=some (.slice (some ⟨kM,0,none⟩) (n+1) (n+1)):=by rw [(hS.at 1 rfl).cell?];rfl
   have rx:=wE (hS.at 6 rfl);have cx:wr.cell? ⟨kM,k,none⟩=some (.bool ((kC V1 k).getD k false)):=xP rx k (by rw [yY,BH.out];exact hlt);have qx:=rx.frozen k;have hbit:=Po (V1.getD k 0);have hS2:=hS.setAt 6 rfl k (ob (oJ (V1.getD k 0)));rw [← Um] at hS2;replace hS2:iX W1 (wr.setCell ⟨kM,k,none⟩ (.bool (oJ (V1.getD k 0)))) [(B,325,[opt none,opt (some ⟨jW,0,none⟩)]),(B+1,35,[on,⟨.slice (some ⟨kM,0,none⟩) (n+1) (n+1),rfl⟩,⟨.slice (some ⟨B+3,0,none⟩) (n+1) (n+1),rfl⟩]),(B+2,327,[on,⟨.slice (some ⟨nu,0,none⟩) (n+1) (n+1),rfl⟩]),(B+3,4,(qK n).map ob),(jW,358,kN x1.1 x1.2.1 x1.2.2 R1.cell),(nu,63,V1.map fun x=>ow (X x)),(kM,4,(kC V1 (k+1)).map ob)]:=hS2;generalize V1.getD k 0=z at *;generalize oJ z=zb at *;clear rx hS;go_wp2_with fail
   go_roundw
   case rel=>exact ⟨k+1,by omega,by go_num,hS2⟩
   case measure=>simp [intOf]<;>omega
  ·obtain rfl:k=n+1:=by omega
   have hq:¬((n+1:Nat):Int)<(n:Int)+1:=by omega
   rw [show kC V1 (n+1)=V1.map oJ by rw [← BH.out,LV]] at hS;obtain ⟨L1,Zd⟩:∃V,Hid (V1.map oJ=V):=⟨_,Lib.hid rfl⟩
   have HL1:Hid (L1.length=n+1):=Lib.hid (by rw [← Zd.out,fe,BH.out]);rw [Zd.out] at hS;clear hlt hk;go_wp2_with fail;refine aj (n:=1) ?_;have hT6:=hS;clear hS hq;generalize wr=V6 at *;have Uo:At oV V6 lb 0 (ru x0):=K8.out.a0.below hT6.b K8.out.lt
   go_upto_region 13 with (first
    | ((with_reducible refine zL Uo bN rfl (C:=#[x0.1.1,x0.2.1.1,x0.2.2.1]) ?_))
    | (go_at_call 219;refine (ab4 (K8.out.d0.below hT6.b) HO.out.2.2.2.2.1).mono ?_;rintro e W7 ⟨sJ,rfl,hmb,hmr,fD⟩;(have sM:=hT6.add fD hmr hmb);(have q7:=(sM.at 0 rfl).frozen 0);(have c7:W7.cell? ⟨B,0,none⟩=some (.pointer none):=by rw [(sM.at 0 rfl).cell?];rfl)))
   have wM:=sM.setAt 0 rfl 0 (opt (some ⟨sJ,0,none⟩));replace wM:iX W1 (W7.setCell ⟨B,0,none⟩ (.pointer (some ⟨sJ,0,none⟩))) [(B,325,[opt (some ⟨sJ,0,none⟩),opt (some ⟨jW,0,none⟩)]),(B+1,35,[on,⟨.slice (some ⟨kM,0,none⟩) (n+1) (n+1),rfl⟩,⟨.slice (some ⟨B+3,0,none⟩) (n+1) (n+1),rfl⟩]),(B+2,327,[on,⟨.slice (some ⟨nu,0,none⟩) (n+1) (n+1),rfl⟩]),(B+3,4,(qK n).map ob),(jW,358,kN x1.1 x1.2.1 x1.2.2 R1.cell),(nu,63,V1.map fun x=>ow (X x)),(kM,4,L1.map ob),(sJ,358,kN x0.1 x0.2.1 x0.2.2 R0.cell)]:=wM;clear Uo q7 c7 sM hmb hmr fD hT6;generalize W7.setCell ⟨B,0,none⟩ (.pointer (some ⟨sJ,0,none⟩))=W8 at *;clear W7 V6;have KX:=wM.drewN 1;change iX W1 W8.drew _ at KX;go_wp2_with fail;refine aC (S:=fun XX=>iX W1 XX [(B,325,[opt (some ⟨sJ,0,none⟩),opt (some ⟨jW,0,none⟩)]),(B+1,35,[on,⟨.slice (some ⟨kM,0,none⟩) (n+1) (n+1),rfl⟩,⟨.slice (some ⟨B+3,0,none⟩) (n+1) (n+1),rfl⟩]),(B+2,327,[on,⟨.slice (some ⟨nu,0,none⟩) (n+1) (n+1),rfl⟩]),(B+3,4,(qK n).map ob),(jW,358,kN x1.1 x1.2.1 x1.2.2 R1.cell),(nu,63,V1.map fun x=>ow (X x)),(kM,4,L1.map ob),(sJ,358,kN x0.1 x0.2.1 x0.2.2 R0.cell)]) 13 rfl (by kernel_rfl) KX fun hS=> ?_;clear wM KX;generalize W8.drew=W9 at *;clear W8;refine tk 0 66 (.slice (some ⟨B+2,0,none⟩) 2 2) hS ?_;refine tk 1 67 (.int .i64 0) hS ?_;refine tk 2 68 (.slice (some ⟨B,0,none⟩) 2 2) hS ?_;refine tk 3 69 (.int .i64 0) hS ?_;refine tk 4 70 (.pointer (some ⟨B,0,none⟩)) hS ?_;refine tk 5 71 (.pointer (some ⟨sJ,0,none⟩)) hS ?_ (hy:= .inl ⟨by first | rfl | kernel_rfl,fun W' h=>by have q0:W'.cell? ⟨B,0,none⟩=some (.pointer (some ⟨sJ,0,none⟩)):=(by rw [(h.at 0 rfl).cell?];rfl);go_simp⟩);refine tk 6 72 (.slice pb n kb) hS ?_;refine tk 7 73 (.slice (some ⟨B+1,0,none⟩) 3 3) hS ?_;refine tk 8 74 (.int .i64 0) hS ?_;refine tk 9 75 (.int .i64 1) hS ?_;refine tk 10 76 (.pointer (some ⟨B+1,1,none⟩)) hS ?_;refine tk 11 77 (.slice (some ⟨kM,0,none⟩) (n+1) (n+1)) hS ?_ (hy:= .inl ⟨by first | rfl | kernel_rfl,fun W' h=>by have q0:W'.cell? ⟨B+1,1,none⟩=some (.slice (some ⟨kM,0,none⟩) (n+1) (n+1)):=(by rw [(h.at 1 rfl).cell?];rfl);go_simp⟩);refine iT 12 (fun K' hK=> ?_);refine cD 78 220 #[.pointer (some ⟨sJ,0,none⟩), .slice pb n kb, .slice (some ⟨kM,0,none⟩) (n+1) (n+1)] ?_;have hL0:=aaV W9 sJ n (n+1) kb (n+1) R0 pb (some ⟨kM,0,none⟩) b (L1) (U7 K8.out.d0 hS.b (hS.at 7 rfl)) HO.out.1 HO.out.2.2.1 (HR.out.below hS.b) (EG (wE (hS.at 6 rfl)) (by first | exact (Ct n).symm | exact HL1.out.symm)) (by omega) (by omega);refine hL0.mono ?_;rintro e mV ⟨q8,rfl,hbl,hbr,J2⟩;refine ⟨_,rfl,hK.out _ _ (hS.up J2) fun hx=> ?_⟩;have CK:=hS.add J2 (UC hbr) hbl;clear hK hL0 J2 hbl hbr hS hx;clear K';simp only [sA,sB,sC];refine aL (by kernel_rfl) ?_;have q10:=(CK.at 2 rfl).frozen 0;have c10:mV.cell? ⟨B+2,0,none⟩=some (.slice none 0 0):=by rw [(CK.at 2 rfl).cell?];rfl
   go_upto_region 14 with (fail);have pG:=CK.setAt 2 rfl 0 ⟨.slice (some ⟨q8,0,none⟩) (n+1) (n+1),rfl⟩;obtain ⟨V0,HV0⟩:∃V,Hid (vJ R0 b (L1) (n+1)=V):=⟨_,Lib.hid rfl⟩
   have VC:Hid (V0.length=n+1):=Lib.hid (by rw [← HV0.out,Jz,HL.out]);rw [HV0.out] at pG;replace pG:iX W1 (mV.setCell ⟨B+2,0,none⟩ (.slice (some ⟨q8,0,none⟩) (n+1) (n+1))) [(B,325,[opt (some ⟨sJ,0,none⟩),opt (some ⟨jW,0,none⟩)]),(B+1,35,[on,⟨.slice (some ⟨kM,0,none⟩) (n+1) (n+1),rfl⟩,⟨.slice (some ⟨B+3,0,none⟩) (n+1) (n+1),rfl⟩]),(B+2,327,[⟨.slice (some ⟨q8,0,none⟩) (n+1) (n+1),rfl⟩,⟨.slice (some ⟨nu,0,none⟩) (n+1) (n+1),rfl⟩]),(B+3,4,(qK n).map ob),(jW,358,kN x1.1 x1.2.1 x1.2.2 R1.cell),(nu,63,V1.map fun x=>ow (X x)),(kM,4,L1.map ob),(sJ,358,kN x0.1 x0.2.1 x0.2.2 R0.cell),(q8,63,V0.map fun x=>ow (X x))]:=pG;clear q10 c10 CK;generalize mV.setCell ⟨B+2,0,none⟩ (.slice (some ⟨q8,0,none⟩) (n+1) (n+1))=EN at *;clear W9 mV;have q11:=(pG.at 1 rfl).frozen 0;have c11:EN.cell? ⟨B+1,0,none⟩=some (.slice none 0 0):=by rw [(pG.at 1 rfl).cell?];rfl
   obtain ⟨C9,aep⟩:∃q,Hid (EN.heap.size=q):=⟨_,Lib.hid rfl⟩
   have qW:=(pG.setAt 1 rfl 0 ⟨.slice (some ⟨C9,0,none⟩) (n+1) (n+1),rfl⟩).alloc (l:=(List.replicate (n+1) false).map ob) (t:=4) (.cells C0 4) (by rw [← qU.out,Lx];rfl);rw [qcn,aep.out] at qW;rw [show (List.replicate (n+1) false)=kC V0 0 by rw [kC,VC.out]] at qW;have g11:B+1<EN.heap.size:=(pG.at 1 rfl).lt;have g12:¬B+1=EN.heap.size:=by omega
   go_upto_region 15 with (fail);rw [aep.out];replace qW:iX W1 ((EN.setCell ⟨B+1,0,none⟩ (.slice (some ⟨C9,0,none⟩) (n+1) (n+1))).alloc (.cells C0 4)) [(B,325,[opt (some ⟨sJ,0,none⟩),opt (some ⟨jW,0,none⟩)]),(B+1,35,[⟨.slice (some ⟨C9,0,none⟩) (n+1) (n+1),rfl⟩,⟨.slice (some ⟨kM,0,none⟩) (n+1) (n+1),rfl⟩,⟨.slice (some ⟨B+3,0,none⟩) (n+1) (n+1),rfl⟩]),(B+2,327,[⟨.slice (some ⟨q8,0,none⟩) (n+1) (n+1),rfl⟩,⟨.slice (some ⟨nu,0,none⟩) (n+1) (n+1),rfl⟩]),(B+3,4,(qK n).map ob),(jW,358,kN x1.1 x1.2.1 x1.2.2 R1.cell),(nu,63,V1.map fun x=>ow (X x)),(kM,4,L1.map ob),(sJ,358,kN x0.1 x0.2.1 x0.2.2 R0.cell),(q8,63,V0.map fun x=>ow (X x)),(C9,4,(kC V0 0).map ob)]:=qW;generalize ((EN.setCell ⟨B+1,0,none⟩ (.slice (some ⟨C9,0,none⟩) (n+1) (n+1))).alloc (.cells C0 4))=Om at *;clear q11 c11 pG g11 g12;have c12:Om.cell? ⟨B+2,0,none⟩=some (.slice (some ⟨q8,0,none⟩) (n+1) (n+1)):=by rw [(qW.at 2 rfl).cell?];rfl
   go_upto_region 16 with (fail);clear c12
   go_loopw [92] (fun R4 wr=>∃k:Nat,k≤n+1∧R4= .int .i64 k∧iX W1 wr [(B,325,[opt (some ⟨sJ,0,none⟩),opt (some ⟨jW,0,none⟩)]),(B+1,35,[⟨.slice (some ⟨C9,0,none⟩) (n+1) (n+1),rfl⟩,⟨.slice (some ⟨kM,0,none⟩) (n+1) (n+1),rfl⟩,⟨.slice (some ⟨B+3,0,none⟩) (n+1) (n+1),rfl⟩]),(B+2,327,[⟨.slice (some ⟨q8,0,none⟩) (n+1) (n+1),rfl⟩,⟨.slice (some ⟨nu,0,none⟩) (n+1) (n+1),rfl⟩]),(B+3,4,(qK n).map ob),(jW,358,kN x1.1 x1.2.1 x1.2.2 R1.cell),(nu,63,V1.map fun x=>ow (X x)),(kM,4,L1.map ob),(sJ,358,kN x0.1 x0.2.1 x0.2.2 R0.cell),(q8,63,V0.map fun x=>ow (X x)),(C9,4,(kC V0 k).map ob)]) (fun R4 _=>n+1 - (intOf R4).toNat)
   case atStart=>exact ⟨0,by omega,rfl,qW⟩
   case round=>
    clear qW;obtain ⟨k,hk,rfl,hS⟩:=hrel;by_cases hlt:k<n+1
    ·have hq:(k:Int)<(n:Int)+1:=by omega
     have cv:wr.cell? ⟨q8,k,none⟩=some (.int .u64 (X (V0.getD k 0))):=Da (Hl (hS.at 8 rfl)) k (by rw [VC.out];exact hlt);have cl:wr.cell? ⟨B+1,0,none⟩=some (.slice (some ⟨C9,0,none⟩) (n+1) (n+1)):=by rw [(hS.at 1 rfl).cell?];rfl
     have rx:=wE (hS.at 9 rfl);have cx:wr.cell? ⟨C9,k,none⟩=some (.bool ((kC V0 k).getD k false)):=xP rx k (by rw [yY,VC.out];exact hlt);have qx:=rx.frozen k;have hbit:=Po (V0.getD k 0);have hS2:=hS.setAt 9 rfl k (ob (oJ (V0.getD k 0)));rw [← Um] at hS2;replace hS2:iX W1 (wr.setCell ⟨C9,k,none⟩ (.bool (oJ (V0.getD k 0)))) [(B,325,[opt (some ⟨sJ,0,none⟩),opt (some ⟨jW,0,none⟩)]),(B+1,35,[⟨.slice (some ⟨C9,0,none⟩) (n+1) (n+1),rfl⟩,⟨.slice (some ⟨kM,0,none⟩) (n+1) (n+1),rfl⟩,⟨.slice (some ⟨B+3,0,none⟩) (n+1) (n+1),rfl⟩]),(B+2,327,[⟨.slice (some ⟨q8,0,none⟩) (n+1) (n+1),rfl⟩,⟨.slice (some ⟨nu,0,none⟩) (n+1) (n+1),rfl⟩]),(B+3,4,(qK n).map ob),(jW,358,kN x1.1 x1.2.1 x1.2.2 R1.cell),(nu,63,V1.map fun x=>ow (X x)),(kM,4,L1.map ob),(sJ,358,kN x0.1 x0.2.1 x0.2.2 R0.cell),(q8,63,V0.map fun x=>ow (X x)),(C9,4,(kC V0 (k+1)).map ob)]:=hS2;generalize V0.getD k 0=z at *;generalize oJ z=zb at *;clear rx hS;go_wp2_with fail
     go_roundw
     case rel=>exact ⟨k+1,by omega,by go_num,hS2⟩
     case measure=>simp [intOf]<;>omega
    ·obtain rfl:k=n+1:=by omega
     have hq:¬((n+1:Nat):Int)<(n:Int)+1:=by omega
     rw [show kC V0 (n+1)=V0.map oJ by rw [← VC.out,LV]] at hS;obtain ⟨L0,ZJ⟩:∃V,Hid (V0.map oJ=V):=⟨_,Lib.hid rfl⟩
     have HL0:Hid (L0.length=n+1):=Lib.hid (by rw [← ZJ.out,fe,VC.out]);rw [ZJ.out] at hS;clear hlt hk;go_wp2_with fail;refine aj (n:=0) ?_;have c20:wr.cell? ⟨B+1,0,none⟩=some (.slice (some ⟨C9,0,none⟩) (n+1) (n+1)):=by rw [(hS.at 1 rfl).cell?];rfl
     have d20:wr.cell? ⟨C9,0,none⟩=some (.bool (L0.getD 0 false)):=xP (wE (hS.at 9 rfl)) 0 (by rw [HL0.out];omega);have e1:lv1 R1 b=V1:=by unfold lv1;rw [← HL.out];exact HV1.out
     have e2:lt1 R1 b=L1:=by unfold lt1;rw [e1];exact Zd.out
     have e3:lv0 R0 R1 b=V0:=by unfold lv0;rw [e2,← HL.out];exact HV0.out
     have e4:lt0 R0 R1 b=L0:=by unfold lt0;rw [e3];exact ZJ.out
     have H5:Hid (FY R0 R1 f0 b=Ch R0 b L1 V0 f0 (n+1 - 0) 0 0 (-1)):=Lib.hid (by unfold FY;rw [e2,e3,← HL.out];rfl);have H6:Hid (∀a,U8 R1 f1 b a=Ch R1 b (qK n) V1 f1 (n+1 - a) a 0 (-1)):=Lib.hid (fun a=>by unfold U8;rw [e1,← HL.out]);have H4:Hid (ZZ R0 R1 f0 f1 b=if L0.getD 0 false then some (FY R0 R1 f0 b,U8 R1 f1 b (FY R0 R1 f0 b).toNat) else none):=Lib.hid (by unfold ZZ;rw [e4]);clear e1 e2 e3 e4;generalize L0.getD 0 false=zb at *;cases zb with
     | false=>
      go_wp2_with fail;go_ret2;rw [H4.out];exact ⟨rfl,HB1.out.trans (hS.b.mono HB1.out.size)⟩
     | true=>
      obtain ⟨a,ha,wK⟩:=HE.out;have HE0:Hid (Ch R0 b L1 V0 f0 (n+1 - 0) 0 0 (-1)=(a:Int)):=Lib.hid (H5.out▸ha);obtain ⟨t1,HE1⟩:∃t,Hid (Ch R1 b (qK n) V1 f1 (n+1 - a) a 0 (-1)=t):=⟨_,Lib.hid rfl⟩
      have HF:Hid (ZZ R0 R1 f0 f1 b=some ((a:Int),t1)):=Lib.hid (by rw [H4.out,if_pos rfl,ha,PI,H6.out,HE1.out]);have m5:∀w:World,(Instr.makeSlice 271 (.int .i64 2) (.int .i64 2)).run Tryz.prog w= .ok (.slice (some ⟨w.heap.size,0,none⟩) 2 2) (w.alloc (.cells #[.int .i64 0, .int .i64 0, .int .i64 0, .int .i64 0] 275)):=fun w=>by first | rfl | kernel_rfl
      have hO:aP 2 Ei (wr.alloc (.cells #[.int .i64 0, .int .i64 0, .int .i64 0, .int .i64 0] 275)) wr.heap.size 275 (.slice (some ⟨wr.heap.size,0,none⟩) 2 2) [(0,0),(0,0)]:=⟨rfl, .inr ⟨wr.heap.size,2,_,rfl,af _,Row.new (f:=oV) (l:=[oi 0,oi 0,oi 0,oi 0]) _ _ rfl,by simp,by decide,rfl,rfl⟩⟩
      have hB:Below wr.heap.size wr (wr.alloc (.cells #[.int .i64 0, .int .i64 0, .int .i64 0, .int .i64 0] 275)):=(ak _ _).alloc (af _) _;have HS:=Lib.hid hS;clear hS ha H4 H5 H6;obtain ⟨ob,Hob⟩:∃q,Hid (wr.heap.size=q):=⟨_,Lib.hid rfl⟩
      replace hO:aP 2 Ei (wr.alloc (.cells #[.int .i64 0, .int .i64 0, .int .i64 0, .int .i64 0] 275)) wr.heap.size 275 (.slice (some ⟨ob,0,none⟩) 2 2) [(0,0),(0,0)]:=Hob.out▸hO;go_upto_region 23 with (fail);clear m5 c20 d20;rw [Hob.out];generalize (wr.alloc (.cells #[.int .i64 0, .int .i64 0, .int .i64 0, .int .i64 0] 275))=U0 at *;go_wp2_with fail;refine wp_loop_rounds 3 ?_;refine aj (n:=2) ?_;have cM:U0.cell? ⟨B,0,none⟩=some (.pointer (some ⟨sJ,0,none⟩)):=(hB.cell (p:=⟨B,0,none⟩) (HS.out.at 0 rfl).lt).trans (by rw [(HS.out.at 0 rfl).cell?];rfl);go_wp2_with fail;clear cM;refine aC (S:=fun XX=>Below wr.heap.size wr XX) 22 rfl (by kernel_rfl) hB.drew fun hS=> ?_;replace hO:=hO.below' (ak U0.heap.size U0).drew;clear hB;generalize U0.drew=T0 at *;clear U0;refine tk 0 123 (.slice (some ⟨ob,0,none⟩) 2 2) hS ?_;refine tk 1 124 (.int .i64 0) hS ?_;refine tk 2 125 (.int .i64 0) hS ?_;refine tk 3 126 (.pointer (some ⟨sJ,0,none⟩)) hS ?_;refine tk 4 127 (.slice pb n kb) hS ?_;refine tk 5 128 (.int .i64 0) hS ?_;refine tk 6 129 (.slice (some ⟨B+1,0,none⟩) 3 3) hS ?_;refine tk 7 130 (.int .i64 0) hS ?_;refine tk 8 131 (.int .i64 1) hS ?_;refine tk 9 132 (.pointer (some ⟨B+1,1,none⟩)) hS ?_;refine tk 10 133 (.slice (some ⟨kM,0,none⟩) (n+1) (n+1)) hS ?_ (hy:= .inl ⟨by first | rfl | kernel_rfl,fun W' h=>by have q0:W'.cell? ⟨B+1,1,none⟩=some (.slice (some ⟨kM,0,none⟩) (n+1) (n+1)):=(h.cell (p:=⟨B+1,1,none⟩) (HS.out.at 1 rfl).lt).trans (by rw [(HS.out.at 1 rfl).cell?];rfl);go_simp⟩);refine tk 11 134 (.slice (some ⟨B+2,0,none⟩) 2 2) hS ?_;refine tk 12 135 (.int .i64 0) hS ?_;refine tk 13 136 (.pointer (some ⟨B+2,0,none⟩)) hS ?_;refine tk 14 137 (.slice (some ⟨q8,0,none⟩) (n+1) (n+1)) hS ?_ (hy:= .inl ⟨by first | rfl | kernel_rfl,fun W' h=>by have q0:W'.cell? ⟨B+2,0,none⟩=some (.slice (some ⟨q8,0,none⟩) (n+1) (n+1)):=(h.cell (p:=⟨B+2,0,none⟩) (HS.out.at 2 rfl).lt).trans (by rw [(HS.out.at 2 rfl).cell?];rfl);go_simp⟩);refine tk 15 138 (.slice (some ⟨pp,0,none⟩) 2 cap) hS ?_;refine tk 16 139 (.int .i64 0) hS ?_;refine tk 17 140 (.pointer (some ⟨pp,0,none⟩)) hS ?_;refine tk 18 141 (.pointer (some ⟨pp,1,none⟩)) hS ?_;refine tk 19 142 (.bool f0) hS ?_ (hy:= .inl ⟨by first | rfl | kernel_rfl,fun W' h=>by have q0:W'.cell? ⟨pp,1,none⟩=some (.bool f0):=(h.cell (p:=⟨pp,1,none⟩) (bJ HpW.out HS.out.b.size)).trans ((HS.out.b.cell (p:=⟨pp,1,none⟩) HpW.out).trans (HQ.out.1 1 (by show 1<2;omega)));go_simp⟩);refine iT 20 (fun K' hK=> ?_);refine cD 143 221 #[.pointer (some ⟨sJ,0,none⟩), .slice pb n kb, .int .i64 0, .slice (some ⟨kM,0,none⟩) (n+1) (n+1), .slice (some ⟨q8,0,none⟩) (n+1) (n+1), .bool f0] ?_;have dY:=HS.out.up hS;have hE:=adh T0 sJ n (n+1) (n+1) 0 kb (n+1) (n+1) f0 R0 pb (some ⟨kM,0,none⟩) (some ⟨q8,0,none⟩) b (L1) V0 (U7 K8.out.d0 dY.b (dY.at 7 rfl)) HO.out.1 HO.out.2.2.1 (HR.out.below dY.b) (EG (wE (dY.at 6 rfl)) (by first | exact (Ct n).symm | exact HL1.out.symm)) (EG (Hl (dY.at 8 rfl)) VC.out.symm) (by omega) (by omega) (by omega) (by omega);rw [HE0.out] at hE;refine hE.mono ?_;rintro e P0 ⟨rfl,j,rfl⟩;refine ⟨_,rfl,hK.out _ _ (hS.trans (nJ _ _ _)) fun hx=> ?_⟩;replace hO:=hO.below' (nJ _ T0 j);clear hK hE dY hS;clear K';generalize T0.drewN j=P0 at *;clear T0;simp only [sA,sB,sC];refine tk 21 144 (.agg #[.int .i64 0, .int .i64 (a:Int)]) hx ?_;refine aL (by kernel_rfl) ?_
      go_wp2_with (first
       | ((with_reducible refine jh (C:= #[.int .i64 0, .int .i64 (a:Int)]) (enc:=Ei) Zx P8 (.tmp 145) (.tmp 144) ?_ ?_ ob 2 2 0 0 rfl ?_ (0,(a:Int)) ?_ ?_ hO (by simp) ?_);rfl;rfl;rfl;rfl;rfl;(intro U1 nE jk);(refine bM.back ?_)))
      have hB:Below wr.heap.size wr U1:=hx.grown jk (by have:=hx.size;omega) (fun k e=>by injection e with e;rw [← e,← Hob.out];exact af _);replace hO:aP 2 Ei U1 wr.heap.size 275 (.slice (some ⟨ob,0,none⟩) 2 2) [(0,(a:Int)),(0,0)]:=nE;clear nE jk hx;clear P0;have cO:U1.cell? ⟨ob,1,none⟩=some (.int .i64 (a:Int)):=by have:=MR hO 1 (by show 1<4;omega);rw [oq] at this;rw [this];rfl
      refine bM.out ?_;go_wp2_with fail;clear cO;refine aj (n:=1) ?_;have cM:U1.cell? ⟨B,1,none⟩=some (.pointer (some ⟨jW,0,none⟩)):=(hB.cell (p:=⟨B,1,none⟩) (HS.out.at 0 rfl).lt).trans (by rw [(HS.out.at 0 rfl).cell?];rfl);go_wp2_with fail;clear cM;refine aC (S:=fun XX=>Below wr.heap.size wr XX) 22 rfl (by kernel_rfl) hB.drew fun hS=> ?_;replace hO:=hO.below' (ak U1.heap.size U1).drew;clear hB;generalize U1.drew=T1 at *;clear U1;refine tk 0 123 (.slice (some ⟨ob,0,none⟩) 2 2) hS ?_;refine tk 1 124 (.int .i64 1) hS ?_;refine tk 2 125 (.int .i64 (a:Int)) hS ?_;refine tk 3 126 (.pointer (some ⟨jW,0,none⟩)) hS ?_;refine tk 4 127 (.slice pb n kb) hS ?_;refine tk 5 128 (.int .i64 (a:Int)) hS ?_;refine tk 6 129 (.slice (some ⟨B+1,0,none⟩) 3 3) hS ?_;refine tk 7 130 (.int .i64 1) hS ?_;refine tk 8 131 (.int .i64 2) hS ?_;refine tk 9 132 (.pointer (some ⟨B+1,2,none⟩)) hS ?_;refine tk 10 133 (.slice (some ⟨(B+3),0,none⟩) (n+1) (n+1)) hS ?_ (hy:= .inl ⟨by first | rfl | kernel_rfl,fun W' h=>by have q0:W'.cell? ⟨B+1,2,none⟩=some (.slice (some ⟨(B+3),0,none⟩) (n+1) (n+1)):=(h.cell (p:=⟨B+1,2,none⟩) (HS.out.at 1 rfl).lt).trans (by rw [(HS.out.at 1 rfl).cell?];rfl);go_simp⟩);refine tk 11 134 (.slice (some ⟨B+2,0,none⟩) 2 2) hS ?_;refine tk 12 135 (.int .i64 1) hS ?_;refine tk 13 136 (.pointer (some ⟨B+2,1,none⟩)) hS ?_;refine tk 14 137 (.slice (some ⟨nu,0,none⟩) (n+1) (n+1)) hS ?_ (hy:= .inl ⟨by first | rfl | kernel_rfl,fun W' h=>by have q0:W'.cell? ⟨B+2,1,none⟩=some (.slice (some ⟨nu,0,none⟩) (n+1) (n+1)):=(h.cell (p:=⟨B+2,1,none⟩) (HS.out.at 2 rfl).lt).trans (by rw [(HS.out.at 2 rfl).cell?];rfl);go_simp⟩);refine tk 15 138 (.slice (some ⟨pp,0,none⟩) 2 cap) hS ?_;refine tk 16 139 (.int .i64 1) hS ?_;refine tk 17 140 (.pointer (some ⟨pp,2,none⟩)) hS ?_;refine tk 18 141 (.pointer (some ⟨pp,3,none⟩)) hS ?_;refine tk 19 142 (.bool f1) hS ?_ (hy:= .inl ⟨by first | rfl | kernel_rfl,fun W' h=>by have q0:W'.cell? ⟨pp,3,none⟩=some (.bool f1):=(h.cell (p:=⟨pp,3,none⟩) (bJ HpW.out HS.out.b.size)).trans ((HS.out.b.cell (p:=⟨pp,3,none⟩) HpW.out).trans (HQ.out.2 1 (by show 1<2;omega)));go_simp⟩);refine iT 20 (fun K' hK=> ?_);refine cD 143 221 #[.pointer (some ⟨jW,0,none⟩), .slice pb n kb, .int .i64 (a:Int), .slice (some ⟨(B+3),0,none⟩) (n+1) (n+1), .slice (some ⟨nu,0,none⟩) (n+1) (n+1), .bool f1] ?_;have dY:=HS.out.up hS;have hE:=adh T1 jW n (n+1) (n+1) a kb (n+1) (n+1) f1 R1 pb (some ⟨(B+3),0,none⟩) (some ⟨nu,0,none⟩) b (qK n) V1 (U7 K8.out.d1 dY.b (dY.at 4 rfl)) HO.out.2.1 HO.out.2.2.2.1 (HR.out.below dY.b) (EG (wE (dY.at 3 rfl)) (by first | exact (Ct n).symm | exact HL1.out.symm)) (EG (Hl (dY.at 5 rfl)) BH.out.symm) (by omega) (by omega) (by omega) (by omega);rw [HE1.out] at hE;refine hE.mono ?_;rintro e P1 ⟨rfl,j,rfl⟩;refine ⟨_,rfl,hK.out _ _ (hS.trans (nJ _ _ _)) fun hx=> ?_⟩;replace hO:=hO.below' (nJ _ T1 j);clear hK hE dY hS;clear K';generalize T1.drewN j=P1 at *;clear T1;simp only [sA,sB,sC];refine tk 21 144 (.agg #[.int .i64 (a:Int), .int .i64 t1]) hx ?_;refine aL (by kernel_rfl) ?_
      go_wp2_with (first
       | ((with_reducible refine jh (C:= #[.int .i64 (a:Int), .int .i64 t1]) (enc:=Ei) Zx P8 (.tmp 145) (.tmp 144) ?_ ?_ ob 2 2 1 2 rfl ?_ ((a:Int),t1) ?_ ?_ hO (by simp) ?_);rfl;rfl;rfl;rfl;rfl;(intro U2 nE jk);(refine bM.back ?_)))
      have hB:Below wr.heap.size wr U2:=hx.grown jk (by have:=hx.size;omega) (fun k e=>by injection e with e;rw [← e,← Hob.out];exact af _);replace hO:aP 2 Ei U2 wr.heap.size 275 (.slice (some ⟨ob,0,none⟩) 2 2) [(0,(a:Int)),((a:Int),t1)]:=nE;clear nE jk hx;clear P1;have cO:U2.cell? ⟨ob,3,none⟩=some (.int .i64 t1):=by have:=MR hO 3 (by show 3<4;omega);rw [oq] at this;rw [this];rfl
      refine bM.out ?_;go_wp2_with fail;clear cO;refine aj (n:=0) ?_;go_wp2_with fail;go_ret2;rw [HF.out];exact ⟨⟨ob,rfl,by rw [← Hob.out];exact aJ HB1.out.size HS.out.b.size,Uw hO⟩,HB1.out.trans ((HS.out.b.trans (hB.mono HS.out.b.size)).mono HB1.out.size)⟩
end Go.Proofs.YtncnfncglacheaaGreatDoor
