/- Part of a proof. -/
import Derived.Test.YtncnfncglacheaaGreatDoorFEqNS
import Derived.Test.YtncnfncglacheaaGreatDoorFSomeOk
set_option linter.all false
set_option maxRecDepth 100000
set_option maxHeartbeats 64000000
namespace Go.Proofs.YtncnfncglacheaaGreatDoor
open Go Go.RowKit Mem
abbrev Am:=Nat×TypeId×List OC
structure jh (w W:World) (R:List Am):Prop where
 b:Below w.heap.size w W
 r:∀x∈R,w.heap.size≤x.1∧Row oV W x.1 x.2.1 x.2.2
 nd:(R.map (·.1)).Nodup
theorem jh.row {w W:World} {R:List Am} (h:jh w W R) {b:Nat} {t:TypeId} {l:List OC} (hm:(b,t,l)∈R):Row oV W b t l:=(h.r _ hm).2
theorem jh.le {w W:World} {R:List Am} (h:jh w W R) {b:Nat} {t:TypeId} {l:List OC} (hm:(b,t,l)∈R):w.heap.size≤b:=(h.r _ hm).1
theorem jh.up {w W X:World} {R:List Am} (h:jh w W R) (hB:Below W.heap.size W X):jh w X R:=
 ⟨h.b.trans (hB.mono h.b.size),fun x hx=>⟨(h.r x hx).1,(h.r x hx).2.below hB (h.r x hx).2.lt⟩,h.nd⟩
theorem jh.drewN {w W:World} {R:List Am} (h:jh w W R) (n:Nat):jh w (W.drewN n) R:=h.up (oO _ _ _)
theorem jh.add {w W X:World} {R:List Am} (h:jh w W R) (hB:Below W.heap.size W X) {b:Nat} {t:TypeId} {l:List OC} (hr:Row oV X b t l) (hb:W.heap.size≤b):jh w X (R++[(b,t,l)]):=by
 have h2:=h.up hB;refine ⟨h2.b,fun x hx=> ?_,?_⟩
 ·rw [sj,lS] at hx;rcases hx with hx | rfl
  ·exact h2.r x hx
  ·exact ⟨aL h.b.size hb,hr⟩
 ·rw [xm,qdl];refine ⟨h.nd,by simp,fun a ha c hc=> ?_⟩;obtain ⟨x,hx,rfl⟩:=wS.1 ha;have:=(h.r x hx).2.lt;simp only [EF,Qk,lS] at hc;omega
theorem jh.alloc {w W:World} {R:List Am} (h:jh w W R) {t:TypeId} {l:List OC} (o:Obj) (ho:o= .cells (l.map oV).toArray t (0,0)):jh w (W.alloc o) (R++[(W.heap.size,t,l)]):=
 h.add ((au _ _).alloc (ah _) _) (Row.new _ _ ho) (ah _)
theorem jh.set {w W:World} {R1 R2:List Am} {b:Nat} {t:TypeId} {l:List OC} (h:jh w W (R1++(b,t,l)::R2)) (i:Nat) (x:OC):jh w (W.setCell ⟨b,i,none⟩ x.1) (R1++(b,t,l.set i x)::R2):=by
 have hb:=h.r (b,t,l) (by simp);refine ⟨aQ h.b i hb.1 _,fun y hy=> ?_,by have:=h.nd;simpa using this⟩;have hnd:=h.nd;rw [xm,EF,qdl] at hnd;obtain ⟨_,n2,n3⟩:=hnd;rw [List.nodup_cons] at n2;rw [sj,nA] at hy;rcases hy with hy | rfl | hy
 ·have h1:=h.r y (by simp [hy]);exact ⟨h1.1,h1.2.aj (fun e=>n3 y.1 (List.mem_map_of_mem hy) b (by simp) e) i _⟩
 ·exact ⟨hb.1,hb.2.set i x⟩
 ·have h1:=h.r y (by simp [hy]);exact ⟨h1.1,h1.2.aj (fun e=>n2.1 (wS.2 ⟨y,hy,e⟩)) i _⟩
theorem jh.at {w W:World} {R:List Am} (h:jh w W R) (k:Nat) {b:Nat} {t:TypeId} {l:List OC} (e:R[k]?=some (b,t,l)):Row oV W b t l:=h.row (qdA e)
theorem jh.setAt {w W:World} {R:List Am} (h:jh w W R) (k:Nat) {b:Nat} {t:TypeId} {l:List OC} (e:R[k]?=some (b,t,l)) (i:Nat) (x:OC):jh w (W.setCell ⟨b,i,none⟩ x.1) (R.set k (b,t,l.set i x)):=by
 obtain ⟨hk,he⟩:=Kj.1 e
 have h1:R=R.take k++(b,t,l)::R.drop (k+1):=by
  rw [← he,← qcs hk,qcO]
 rw [h1] at h;have h2:=h.set i x;rw [List.set_eq_take_append_cons_drop,aC hk];exact h2
theorem xD {w:World} {b:Nat} {t:TypeId} {l:List Bool} (h:Row oV w b t (l.map ob)):Row Value.bool w b t l:=by
 unfold Row at *;rw [h,MK];rfl
theorem VJ {w:World} {b:Nat} {t:TypeId} {l:List UInt64} (h:Row uV w b t l):Row oV w b t (l.map fun x=>ow (X x)):=by
 unfold Row at *;rw [h,MK];rfl
theorem IQ {w:World} {b:Nat} {t:TypeId} {l:List UInt64} (h:Row oV w b t (l.map fun x=>ow (X x))):Row uV w b t l:=by
 unfold Row at *;rw [h,MK];rfl
theorem EU {α:Type} {f:α→Value} {w:World} {b:Nat} {t:TypeId} {l:List α} (h:Row f w b t l) {n:Nat} (hn:n=l.length):Rd f w (.slice (some ⟨b,0,none⟩) n n) l:=by
 subst hn;exact .inr ⟨b,0,_,rfl,ah _,fun i hi=>by rw [nR,h.cell?],h.lt⟩
def pz (x:UInt64):Bool:=(x &&& 1)==1
def qU (n:Nat):List Bool:=List.replicate n false++[true]
def lv1 (R1:DF) (b:List UInt8):List UInt64:=wL R1 b (qU b.length) (b.length+1)
def lt1 (R1:DF) (b:List UInt8):List Bool:=(lv1 R1 b).map pz
def lv0 (R0 R1:DF) (b:List UInt8):List UInt64:=wL R0 b (lt1 R1 b) (b.length+1)
def lt0 (R0 R1:DF) (b:List UInt8):List Bool:=(lv0 R0 R1 b).map pz
def Gs (R0 R1:DF) (f0:Bool) (b:List UInt8):Int:=Cw R0 b (lt1 R1 b) (lv0 R0 R1 b) f0 (b.length+1) 0 0 (-1)
def VM (R1:DF) (f1:Bool) (b:List UInt8) (a:Nat):Int:=Cw R1 b (qU b.length) (lv1 R1 b) f1 (b.length+1 - a) a 0 (-1)
def mtF (R0 R1:DF) (f0 f1:Bool) (b:List UInt8):Option (Int×Int):=if (lt0 R0 R1 b).getD 0 false then some (Gs R0 R1 f0 b,VM R1 f1 b (Gs R0 R1 f0 b).toNat) else none
def kM (l:List UInt64):Nat→List Bool
 | 0=>List.replicate l.length false
 | k+1=>(kM l k).set k (pz (l.getD k 0))
theorem zN (l:List UInt64) (k:Nat):(kM l k).length=l.length:=by
 induction k with
 | zero=>simp [kM]
 | succ k ih=>rw [kM,ru,ih]
theorem Y8 (l:List UInt64) (k:Nat):∀j,j<l.length→(kM l k)[j]?=some (if j<k then pz (l.getD j 0) else false):=by
 induction k with
 | zero=>intro j hj;simp [kM,hj]
 | succ k ih=>
  intro j hj;rw [kM,LJ];by_cases e:k=j
  ·subst e;rw [aC rfl,aC (by rw [zN];exact hj),aC (by omega)]
  ·rw [aF e,ih j hj];by_cases h:j<k
   ·rw [aC h,aC (by omega)]
   ·rw [aF h,aF (by omega)]
theorem MQ (l:List UInt64):kM l l.length=l.map pz:=by
 apply Q7;intro j;by_cases hj:j<l.length
 ·rw [Y8 l _ j hj,aC hj,jS,bM hj,dD,bM hj];rfl
 ·rw [qX (by rw [zN];omega),qX (by simp;omega)]
theorem ac8 (n:Nat):(List.replicate (n+1) false).set n true=qU n:=by
 unfold qU;apply Q7;intro j;rw [LJ];by_cases e:n=j
 ·subst e;rw [aC rfl,aC (by simp),Kk (by simp)];simp
 ·rw [aF e,U4];by_cases h:j<n
  ·rw [aC (by omega),Ig (by simpa using h),U4,aC h]
  ·rw [aF (by omega),qX (by simp;omega)]
theorem DN (n:Nat):(qU n).length=n+1:=by simp [qU]
theorem QT (s:UInt64):(bits .and .u64 (X s) 1==1)=pz s:=by
 rw [show (1:Int)=X 1 from rfl,qm];unfold pz;rw [AL,EE,EE];exact ⟨fun e=>rZ e,fun e=>by rw [e]⟩
def EX (x:Int×Int):List OC:=[oi x.1,oi x.2]
theorem SK (x:Int×Int):(EX x).length=2:=rfl
theorem aas:bU Tryz.prog 275 2:=⟨fun _=>by kernel_rfl,fun _=>by kernel_rfl⟩
theorem MR {W:World} {base:Nat} {e:TypeId} {bl:Nat} {x0 x1:Int×Int} (h:aT 2 EX W base e (.slice (some ⟨bl,0,none⟩) 2 2) [x0,x1]):At oV W bl 0 [oi x0.1,oi x0.2,oi x1.1,oi x1.2]:=by
 rcases h.2 with ⟨h0,_⟩ | ⟨g2,cap,cur,he,hbg,hc,hn,hm,hs,ht⟩
 ·cases h0
 ·injection he with he1 he2 GZ
  injection he1 with he1
  injection he1 with he1 _ _
  subst he1 GZ;intro i hi;have hi:i<4:=hi;unfold World.cell?;rw [hc];have h1:cur.toList[i]?=(cur.toList.take (2 * 2))[i]?:=by rw [List.getElem?_take,aC hi]
  rw [← jS];have h2:([oi x0.1,oi x0.2,oi x1.1,oi x1.2].map oV)=((List.flatMap EX [x0,x1]).map oV):=by simp [List.flatMap,EX]
  rw [h2,← ht,nR];exact (qdx (xs:=cur) (i:=i)).symm.trans h1
theorem Uv {W:World} {base:Nat} {e:TypeId} {bl:Nat} {x0 x1:Int×Int} (h:aT 2 EX W base e (.slice (some ⟨bl,0,none⟩) 2 2) [x0,x1]):Row oV W bl e [oi x0.1,oi x0.2,oi x1.1,oi x1.2]:=by
 rcases h.2 with ⟨h0,_⟩ | ⟨g2,cap,cur,he,hbg,hc,hn,hm,hs,ht⟩
 ·cases h0
 ·injection he with he1 he2 GZ
  injection he1 with he1
  injection he1 with he1 _ _
  subst he1 GZ;have hl:cur.toList.length≤2 * 2:=by rw [Io (xs:=cur),hs];exact ah _
  have h2:([oi x0.1,oi x0.2,oi x1.1,oi x1.2].map oV)=((List.flatMap EX [x0,x1]).map oV):=by simp [List.flatMap,EX]
  have h3:cur.toList=[oi x0.1,oi x0.2,oi x1.1,oi x1.2].map oV:=by
   rw [h2,← ht];exact (qj hl).symm
  unfold Row;rw [hc,← h3]
theorem abz {w:World} {x:OC×OC×OC} {D:DF} (hd:dA w (.agg #[x.1.1,x.2.1.1,x.2.2.1]) D) (h:D.cls.length≤256):
  Calls Tryz.prog 219 #[.agg #[x.1.1,x.2.1.1,x.2.2.1]] w fun e w'=>∃mb,e= .returned (.pointer (some ⟨mb,0,none⟩))∧w.heap.size≤mb∧Row oV w' mb 358 (lI x.1 x.2.1 x.2.2 D.cell)∧Below w.heap.size w w':=by
 obtain ⟨⟨xa,ha⟩,⟨xb,hb⟩,⟨xc,hc⟩⟩:=x;obtain ⟨vc,vn,va,e,q1,q2,q3⟩:=hd;injection e with e
 simp only [TU,Hg,G5] at e;obtain ⟨rfl,rfl,rfl⟩:=e;obtain ⟨p1,k1,rfl⟩:=q1.slice;obtain ⟨p2,k2,rfl⟩:=q2.slice;obtain ⟨p3,k3,rfl⟩:=q3.slice;exact RI w p1 p2 p3 _ k1 _ k2 _ k3 D.cls q1 h
theorem Ws {w W:World} {x:OC×OC×OC} {D:DF} {mb:Nat} (hd:dA w (.agg #[x.1.1,x.2.1.1,x.2.2.1]) D) (hW:Below w.heap.size w W) (hr:Row oV W mb 358 (lI x.1 x.2.1 x.2.2 D.cell)):uO W mb D:=by
 obtain ⟨vc,vn,va,e,q1,q2,q3⟩:=hd;injection e with e
 simp only [TU,Hg,G5] at e;obtain ⟨rfl,rfl,rfl⟩:=e;exact ⟨_,_,_,hr,q2.below' hW,q3.below hW⟩
def PY (w w':World) (e:Ending):Option (Int×Int)→Prop
 | none=>e= .returned (.tuple #[.slice none 0 0, .bool false])
 | some (t0,t1)=>∃x,e= .returned (.tuple #[.slice (some ⟨x,0,none⟩) 2 2, .bool true])∧w.heap.size≤x∧Row oV w' x 275 [oi 0,oi t0,oi t0,oi t1]
def opt (v:Option Addr):OC:=⟨.pointer v,rfl⟩
theorem ab8 (w:World) (pp cap lg lu n0 n1 n kb:Nat) (f0 f1:Bool) (c0 c1:Cl) (R0 R1:DF) (pb:Option Addr) (b:List UInt8) (h0:At oV w pp 0 (H8 lg n0 f0)) (h1:At oV w pp 2 (H8 lu n1 f1)) (Jz:pp<w.heap.size) (hr0:sP w lg c0) (hr1:sP w lu c1) (vz:R0.Ok) (mE:R1.Ok) (aeX:R0.nx.length≤64) (aen:R1.nx.length≤64) (acd:R0.cls.length≤256) (abe:R1.cls.length≤256) (hB0:gM c0 R0) (hB1:gM c1 R1) (hT:iw w) (htl:1<w.heap.size) (hb:Rd aV w (.slice pb n kb) b) (hn:n≤60000) (hend:∃a:Nat,Gs R0 R1 f0 b=a∧a≤n):
  Calls Tryz.prog 169 #[.slice (some ⟨pp,0,none⟩) 2 cap, .slice pb n kb] w fun e w'=>PY w w' e (mtF R0 R1 f0 f1 b)∧Below w.heap.size w w':=by
 have HA:=af (F6 w pp cap lg lu n0 n1 f0 f1 c0 c1 R0 R1 h0 h1 Jz hr0 hr1 vz mE hB0 hB1 hT htl);have HP:=af (And.intro h0 (And.intro h1 Jz));have HO:=af (And.intro vz (And.intro mE (And.intro aeX (And.intro aen (And.intro acd abe)))));have HB:=af hb;have HE:=af hend;have HL:Hid (n=b.length):=af hb.len;clear h0 h1 Jz hr0 hr1 vz mE aeX aen acd abe hB0 hB1 hT htl hb hend;have m1:∀w:World,(Instr.makeSlice 322 (.int .i64 2) (.int .i64 2)).run Tryz.prog w= .ok (.slice (some ⟨w.heap.size,0,none⟩) 2 2) (w.alloc (.cells #[.pointer none, .pointer none] 325)):=fun w=>by first | rfl | kernel_rfl
 have m2:∀w:World,(Instr.makeSlice 323 (.int .i64 3) (.int .i64 3)).run Tryz.prog w= .ok (.slice (some ⟨w.heap.size,0,none⟩) 3 3) (w.alloc (.cells #[.slice none 0 0, .slice none 0 0, .slice none 0 0] 35)):=fun w=>by first | rfl | kernel_rfl
 have m3:∀w:World,(Instr.makeSlice 324 (.int .i64 2) (.int .i64 2)).run Tryz.prog w= .ok (.slice (some ⟨w.heap.size,0,none⟩) 2 2) (w.alloc (.cells #[.slice none 0 0, .slice none 0 0] 327)):=fun w=>by first | rfl | kernel_rfl
 obtain ⟨C0,tq⟩:∃C,Hid (((List.replicate (n+1) false).map Value.bool).toArray=C):=⟨_,af rfl⟩
 have m4:∀w:World,(Instr.makeSlice 35 (.int .i64 ((n:Int)+1)) (.int .i64 ((n:Int)+1))).run Tryz.prog w= .ok (.slice (some ⟨w.heap.size,0,none⟩) (n+1) (n+1)) (w.alloc (.cells C0 4)):=fun w=>by
  have h:=RH w (n+1) (by omega);rw [show ((n+1:Nat):Int)=(n:Int)+1 by omega,tq.out] at h;exact h
 go_enter Tryz.func169,Tryz.ntmps169;go_upto_region 2 with (first | (go_at_call 201;refine HA.out.mono ?_;rintro e W1 ⟨lb,x0,x1,rfl,hP,hB1⟩));have HB1:=af hB1;have Ma:=af hP;have HR:=af (HB.out.below hB1);have HQ:=af (And.intro (HP.out.1.below hB1 HP.out.2.2) (HP.out.2.1.below hB1 HP.out.2.2));have HpW:=af (bO HP.out.2.2 hB1.size);have hS0:jh W1 W1 []:=⟨au _ _,by simp,by simp⟩
 clear hP hB1;go_upto_region 5 with (fail);have hS1:=hS0.alloc (l:=[opt none,opt none]) (t:=325) (.cells #[.pointer none, .pointer none] 325) rfl;clear hS0;have z1:(W1.alloc (.cells #[.pointer none, .pointer none] 325)).heap.size=W1.heap.size+1:=bR _ _;clear m1;generalize W1.alloc (.cells #[.pointer none, .pointer none] 325)=W2 at *;go_upto_region 6 with (fail);have hS2:=hS1.alloc (l:=[on,on,on]) (t:=35) (.cells #[.slice none 0 0, .slice none 0 0, .slice none 0 0] 35) rfl;have z2:(W2.alloc (.cells #[.slice none 0 0, .slice none 0 0, .slice none 0 0] 35)).heap.size=W1.heap.size+2:=by rw [bR,z1]
 rw [z1] at hS2;clear m2 hS1 z1;generalize W2.alloc (.cells #[.slice none 0 0, .slice none 0 0, .slice none 0 0] 35)=W3 at *;clear W2;go_upto_region 7 with (fail);have eP:=hS2.alloc (l:=[on,on]) (t:=327) (.cells #[.slice none 0 0, .slice none 0 0] 327) rfl;have z3:(W3.alloc (.cells #[.slice none 0 0, .slice none 0 0] 327)).heap.size=W1.heap.size+3:=by rw [bR,z2]
 rw [z2] at eP;clear m3 hS2 z2;generalize W3.alloc (.cells #[.slice none 0 0, .slice none 0 0] 327)=W4 at *;clear W3;obtain ⟨B,P7⟩:∃q,Hid (W1.heap.size=q):=⟨_,af rfl⟩
 rw [P7.out] at z3 ⊢;replace eP:jh W1 W4 [(B,325,[opt none,opt none]),(B+1,35,[on,on,on]),(B+2,327,[on,on])]:=P7.out▸eP;have r4:=eP.at 1 rfl;have q4:=r4.frozen 2;have c4:W4.cell? ⟨B+1,2,none⟩=some (.slice none 0 0):=by rw [r4.cell?];rfl
 have vK:=eP.setAt 1 rfl 2 ⟨.slice (some ⟨B+3,0,none⟩) (n+1) (n+1),rfl⟩;have hS5:=vK.alloc (l:=(List.replicate (n+1) false).map ob) (t:=4) (.cells C0 4) (by rw [← tq.out,MK];rfl);have z5:((W4.setCell ⟨B+1,2,none⟩ (.slice (some ⟨B+3,0,none⟩) (n+1) (n+1))).alloc (.cells C0 4)).heap.size=B+4:=by rw [bR,qcJ,z3]
 rw [qcJ,z3] at hS5;go_upto_region 8 with (fail);replace hS5:jh W1 ((W4.setCell ⟨B+1,2,none⟩ (.slice (some ⟨B+3,0,none⟩) (n+1) (n+1))).alloc (.cells C0 4)) [(B,325,[opt none,opt none]),(B+1,35,[on,on,⟨.slice (some ⟨B+3,0,none⟩) (n+1) (n+1),rfl⟩]),(B+2,327,[on,on]),(B+3,4,(List.replicate (n+1) false).map ob)]:=hS5;generalize ((W4.setCell ⟨B+1,2,none⟩ (.slice (some ⟨B+3,0,none⟩) (n+1) (n+1))).alloc (.cells C0 4))=W5 at *;clear r4 q4 c4 vK eP z3;clear W4;have c4:W5.cell? ⟨B+1,2,none⟩=some (.slice (some ⟨B+3,0,none⟩) (n+1) (n+1)):=by rw [(hS5.at 1 rfl).cell?];rfl
 have r5:=hS5.at 3 rfl;have q5:=r5.frozen n;have c5:W5.cell? ⟨B+3,n,none⟩=some (.bool false):=by rw [r5.cell?];simp;rfl
 have AP:=hS5.setAt 3 rfl n (ob true);rw [← TW,ac8] at AP;have z6:(W5.setCell ⟨B+3,n,none⟩ (.bool true)).heap.size=B+4:=by rw [qcJ,z5]
 go_upto_region 9 with (fail);replace AP:jh W1 (W5.setCell ⟨B+3,n,none⟩ (.bool true)) [(B,325,[opt none,opt none]),(B+1,35,[on,on,⟨.slice (some ⟨B+3,0,none⟩) (n+1) (n+1),rfl⟩]),(B+2,327,[on,on]),(B+3,4,(qU n).map ob)]:=AP;generalize W5.setCell ⟨B+3,n,none⟩ (.bool true)=W6 at *;clear r5 q5 c5 c4 hS5 z5;clear W5;go_wp2_with fail;refine uT 3 ?_;refine ak (n:=2) ?_;have hA1:At oV W6 lb 3 (sS x1):=Ma.out.a1.below AP.b Ma.out.lt
 go_upto_region 13 with (first
  | ((with_reducible refine zL hA1 bQ rfl (C:=#[x1.1.1,x1.2.1.1,x1.2.2.1]) ?_))
  | (go_at_call 219;refine (abz (Ma.out.d1.below AP.b) HO.out.2.2.2.2.2).mono ?_;rintro e W7 ⟨jZ,rfl,hmb,hmr,gU⟩;(have tN:=AP.add gU hmr hmb);(have q7:=(tN.at 0 rfl).frozen 1);(have c7:W7.cell? ⟨B,1,none⟩=some (.pointer none):=by rw [(tN.at 0 rfl).cell?];rfl)))
 have wY:=tN.setAt 0 rfl 1 (opt (some ⟨jZ,0,none⟩));replace wY:jh W1 (W7.setCell ⟨B,1,none⟩ (.pointer (some ⟨jZ,0,none⟩))) [(B,325,[opt none,opt (some ⟨jZ,0,none⟩)]),(B+1,35,[on,on,⟨.slice (some ⟨B+3,0,none⟩) (n+1) (n+1),rfl⟩]),(B+2,327,[on,on]),(B+3,4,(qU n).map ob),(jZ,358,lI x1.1 x1.2.1 x1.2.2 R1.cell)]:=wY;clear hA1 q7 c7 tN hmb hmr gU AP z6;generalize W7.setCell ⟨B,1,none⟩ (.pointer (some ⟨jZ,0,none⟩))=W8 at *;clear W7 W6;have Mf:=wY.drewN 1;change jh W1 W8.drew _ at Mf;go_wp2_with fail;refine aH (S:=fun XX=>jh W1 XX [(B,325,[opt none,opt (some ⟨jZ,0,none⟩)]),(B+1,35,[on,on,⟨.slice (some ⟨B+3,0,none⟩) (n+1) (n+1),rfl⟩]),(B+2,327,[on,on]),(B+3,4,(qU n).map ob),(jZ,358,lI x1.1 x1.2.1 x1.2.2 R1.cell)]) 13 rfl (by kernel_rfl) Mf fun hS=> ?_;clear wY Mf;generalize W8.drew=W9 at *;clear W8;refine tk 0 66 (.slice (some ⟨B+2,0,none⟩) 2 2) hS ?_;refine tk 1 67 (.int .i64 1) hS ?_;refine tk 2 68 (.slice (some ⟨B,0,none⟩) 2 2) hS ?_;refine tk 3 69 (.int .i64 1) hS ?_;refine tk 4 70 (.pointer (some ⟨B,1,none⟩)) hS ?_;refine tk 5 71 (.pointer (some ⟨jZ,0,none⟩)) hS ?_ (hy:= .inl ⟨by first | rfl | kernel_rfl,fun W' h=>by have q0:W'.cell? ⟨B,1,none⟩=some (.pointer (some ⟨jZ,0,none⟩)):=(by rw [(h.at 0 rfl).cell?];rfl);go_simp⟩);refine tk 6 72 (.slice pb n kb) hS ?_;refine tk 7 73 (.slice (some ⟨B+1,0,none⟩) 3 3) hS ?_;refine tk 8 74 (.int .i64 1) hS ?_;refine tk 9 75 (.int .i64 2) hS ?_;refine tk 10 76 (.pointer (some ⟨B+1,2,none⟩)) hS ?_;refine tk 11 77 (.slice (some ⟨(B+3),0,none⟩) (n+1) (n+1)) hS ?_ (hy:= .inl ⟨by first | rfl | kernel_rfl,fun W' h=>by have q0:W'.cell? ⟨B+1,2,none⟩=some (.slice (some ⟨(B+3),0,none⟩) (n+1) (n+1)):=(by rw [(h.at 1 rfl).cell?];rfl);go_simp⟩);refine iZ 12 (fun K' hK=> ?_);refine cD 78 220 #[.pointer (some ⟨jZ,0,none⟩), .slice pb n kb, .slice (some ⟨(B+3),0,none⟩) (n+1) (n+1)] ?_;have hL1:=aaV W9 jZ n (n+1) kb (n+1) R1 pb (some ⟨(B+3),0,none⟩) b (qU n) (Ws Ma.out.d1 hS.b (hS.at 4 rfl)) HO.out.2.1 HO.out.2.2.2.1 (HR.out.below hS.b) (EU (xD (hS.at 3 rfl)) (by first | exact (DN n).symm | exact HL1.out.symm)) (by omega) (by omega);refine hL1.mono ?_;rintro e ni ⟨ny,rfl,hbl,hbr,JI⟩;refine ⟨_,rfl,hK.out _ _ (hS.up JI) fun hx=> ?_⟩;have Dw:=hS.add JI (VJ hbr) hbl;clear hK hL1 JI hbl hbr hS hx;clear K';simp only [sA,sB,sC];refine aP (by kernel_rfl) ?_;have q10:=(Dw.at 2 rfl).frozen 1;have c10:ni.cell? ⟨B+2,1,none⟩=some (.slice none 0 0):=by rw [(Dw.at 2 rfl).cell?];rfl
 go_upto_region 14 with (fail);have pW:=Dw.setAt 2 rfl 1 ⟨.slice (some ⟨ny,0,none⟩) (n+1) (n+1),rfl⟩;obtain ⟨V1,HV1⟩:∃V,Hid (wL R1 b (qU n) (n+1)=V):=⟨_,af rfl⟩
 have CW:Hid (V1.length=n+1):=af (by rw [← HV1.out,Jo,HL.out]);rw [HV1.out] at pW;replace pW:jh W1 (ni.setCell ⟨B+2,1,none⟩ (.slice (some ⟨ny,0,none⟩) (n+1) (n+1))) [(B,325,[opt none,opt (some ⟨jZ,0,none⟩)]),(B+1,35,[on,on,⟨.slice (some ⟨B+3,0,none⟩) (n+1) (n+1),rfl⟩]),(B+2,327,[on,⟨.slice (some ⟨ny,0,none⟩) (n+1) (n+1),rfl⟩]),(B+3,4,(qU n).map ob),(jZ,358,lI x1.1 x1.2.1 x1.2.2 R1.cell),(ny,63,V1.map fun x=>ow (X x))]:=pW;clear q10 c10 Dw;generalize ni.setCell ⟨B+2,1,none⟩ (.slice (some ⟨ny,0,none⟩) (n+1) (n+1))=Ff at *;clear W9 ni;have q11:=(pW.at 1 rfl).frozen 1;have c11:Ff.cell? ⟨B+1,1,none⟩=some (.slice none 0 0):=by rw [(pW.at 1 rfl).cell?];rfl
 obtain ⟨lG,adZ⟩:∃q,Hid (Ff.heap.size=q):=⟨_,af rfl⟩
 have rU:=(pW.setAt 1 rfl 1 ⟨.slice (some ⟨lG,0,none⟩) (n+1) (n+1),rfl⟩).alloc (l:=(List.replicate (n+1) false).map ob) (t:=4) (.cells C0 4) (by rw [← tq.out,MK];rfl);rw [qcJ,adZ.out] at rU;rw [show (List.replicate (n+1) false)=kM V1 0 by rw [kM,CW.out]] at rU;have g11:B+1<Ff.heap.size:=(pW.at 1 rfl).lt;have g12:¬B+1=Ff.heap.size:=by omega
 go_upto_region 15 with (fail);rw [adZ.out];replace rU:jh W1 ((Ff.setCell ⟨B+1,1,none⟩ (.slice (some ⟨lG,0,none⟩) (n+1) (n+1))).alloc (.cells C0 4)) [(B,325,[opt none,opt (some ⟨jZ,0,none⟩)]),(B+1,35,[on,⟨.slice (some ⟨lG,0,none⟩) (n+1) (n+1),rfl⟩,⟨.slice (some ⟨B+3,0,none⟩) (n+1) (n+1),rfl⟩]),(B+2,327,[on,⟨.slice (some ⟨ny,0,none⟩) (n+1) (n+1),rfl⟩]),(B+3,4,(qU n).map ob),(jZ,358,lI x1.1 x1.2.1 x1.2.2 R1.cell),(ny,63,V1.map fun x=>ow (X x)),(lG,4,(kM V1 0).map ob)]:=rU;generalize ((Ff.setCell ⟨B+1,1,none⟩ (.slice (some ⟨lG,0,none⟩) (n+1) (n+1))).alloc (.cells C0 4))=OU at *;clear q11 c11 pW g11 g12;have c12:OU.cell? ⟨B+2,1,none⟩=some (.slice (some ⟨ny,0,none⟩) (n+1) (n+1)):=by rw [(rU.at 2 rfl).cell?];rfl
 go_upto_region 16 with (fail);clear c12
 go_loopw [92] (fun Uy wr=>∃k:Nat,k≤n+1∧Uy= .int .i64 k∧jh W1 wr [(B,325,[opt none,opt (some ⟨jZ,0,none⟩)]),(B+1,35,[on,⟨.slice (some ⟨lG,0,none⟩) (n+1) (n+1),rfl⟩,⟨.slice (some ⟨B+3,0,none⟩) (n+1) (n+1),rfl⟩]),(B+2,327,[on,⟨.slice (some ⟨ny,0,none⟩) (n+1) (n+1),rfl⟩]),(B+3,4,(qU n).map ob),(jZ,358,lI x1.1 x1.2.1 x1.2.2 R1.cell),(ny,63,V1.map fun x=>ow (X x)),(lG,4,(kM V1 k).map ob)]) (fun Uy _=>n+1 - (intOf Uy).toNat)
 case atStart=>exact ⟨0,by omega,rfl,rU⟩
 case round=>
  clear rU;obtain ⟨k,hk,rfl,hS⟩:=hrel;by_cases hlt:k<n+1
  ·have hq:(k:Int)<(n:Int)+1:=by omega
   have cv:wr.cell? ⟨ny,k,none⟩=some (.int .u64 (X (V1.getD k 0))):=Da (IQ (hS.at 5 rfl)) k (by rw [CW.out];exact hlt);have cl:wr.cell? ⟨B+1,1,none⟩=some (.slice (some ⟨lG,0,none⟩) (n+1) (n+1)):=by rw [(hS.at 1 rfl).cell?];rfl
   have rx:=xD (hS.at 6 rfl);have cx:wr.cell? ⟨lG,k,none⟩=some (.bool ((kM V1 k).getD k false)):=zg rx k (by rw [zN,CW.out];exact hlt);have qx:=rx.frozen k;have hbit:=QT (V1.getD k 0);have hS2:=hS.setAt 6 rfl k (ob (pz (V1.getD k 0)));rw [← TW] at hS2;replace hS2:jh W1 (wr.setCell ⟨lG,k,none⟩ (.bool (pz (V1.getD k 0)))) [(B,325,[opt none,opt (some ⟨jZ,0,none⟩)]),(B+1,35,[on,⟨.slice (some ⟨lG,0,none⟩) (n+1) (n+1),rfl⟩,⟨.slice (some ⟨B+3,0,none⟩) (n+1) (n+1),rfl⟩]),(B+2,327,[on,⟨.slice (some ⟨ny,0,none⟩) (n+1) (n+1),rfl⟩]),(B+3,4,(qU n).map ob),(jZ,358,lI x1.1 x1.2.1 x1.2.2 R1.cell),(ny,63,V1.map fun x=>ow (X x)),(lG,4,(kM V1 (k+1)).map ob)]:=hS2;generalize V1.getD k 0=z at *;generalize pz z=zb at *;clear rx hS;go_wp2_with fail
   go_roundw
   case rel=>exact ⟨k+1,by omega,by go_num,hS2⟩
   case measure=>simp [intOf]<;>omega
  ·obtain rfl:k=n+1:=by omega
   have hq:¬((n+1:Nat):Int)<(n:Int)+1:=by omega
   rw [show kM V1 (n+1)=V1.map pz by rw [← CW.out,MQ]] at hS;obtain ⟨L1,ab7⟩:∃V,Hid (V1.map pz=V):=⟨_,af rfl⟩
   have HL1:Hid (L1.length=n+1):=af (by rw [← ab7.out,fD,CW.out]);rw [ab7.out] at hS;clear hlt hk;go_wp2_with fail;refine ak (n:=1) ?_;have hT6:=hS;clear hS hq;generalize wr=V6 at *;have UX:At oV V6 lb 0 (sS x0):=Ma.out.a0.below hT6.b Ma.out.lt
   go_upto_region 13 with (first
    | ((with_reducible refine zL UX bQ rfl (C:=#[x0.1.1,x0.2.1.1,x0.2.2.1]) ?_))
    | (go_at_call 219;refine (abz (Ma.out.d0.below hT6.b) HO.out.2.2.2.2.1).mono ?_;rintro e W7 ⟨sQ,rfl,hmb,hmr,gU⟩;(have tN:=hT6.add gU hmr hmb);(have q7:=(tN.at 0 rfl).frozen 0);(have c7:W7.cell? ⟨B,0,none⟩=some (.pointer none):=by rw [(tN.at 0 rfl).cell?];rfl)))
   have wY:=tN.setAt 0 rfl 0 (opt (some ⟨sQ,0,none⟩));replace wY:jh W1 (W7.setCell ⟨B,0,none⟩ (.pointer (some ⟨sQ,0,none⟩))) [(B,325,[opt (some ⟨sQ,0,none⟩),opt (some ⟨jZ,0,none⟩)]),(B+1,35,[on,⟨.slice (some ⟨lG,0,none⟩) (n+1) (n+1),rfl⟩,⟨.slice (some ⟨B+3,0,none⟩) (n+1) (n+1),rfl⟩]),(B+2,327,[on,⟨.slice (some ⟨ny,0,none⟩) (n+1) (n+1),rfl⟩]),(B+3,4,(qU n).map ob),(jZ,358,lI x1.1 x1.2.1 x1.2.2 R1.cell),(ny,63,V1.map fun x=>ow (X x)),(lG,4,L1.map ob),(sQ,358,lI x0.1 x0.2.1 x0.2.2 R0.cell)]:=wY;clear UX q7 c7 tN hmb hmr gU hT6;generalize W7.setCell ⟨B,0,none⟩ (.pointer (some ⟨sQ,0,none⟩))=W8 at *;clear W7 V6;have Mf:=wY.drewN 1;change jh W1 W8.drew _ at Mf;go_wp2_with fail;refine aH (S:=fun XX=>jh W1 XX [(B,325,[opt (some ⟨sQ,0,none⟩),opt (some ⟨jZ,0,none⟩)]),(B+1,35,[on,⟨.slice (some ⟨lG,0,none⟩) (n+1) (n+1),rfl⟩,⟨.slice (some ⟨B+3,0,none⟩) (n+1) (n+1),rfl⟩]),(B+2,327,[on,⟨.slice (some ⟨ny,0,none⟩) (n+1) (n+1),rfl⟩]),(B+3,4,(qU n).map ob),(jZ,358,lI x1.1 x1.2.1 x1.2.2 R1.cell),(ny,63,V1.map fun x=>ow (X x)),(lG,4,L1.map ob),(sQ,358,lI x0.1 x0.2.1 x0.2.2 R0.cell)]) 13 rfl (by kernel_rfl) Mf fun hS=> ?_;clear wY Mf;generalize W8.drew=W9 at *;clear W8;refine tk 0 66 (.slice (some ⟨B+2,0,none⟩) 2 2) hS ?_;refine tk 1 67 (.int .i64 0) hS ?_;refine tk 2 68 (.slice (some ⟨B,0,none⟩) 2 2) hS ?_;refine tk 3 69 (.int .i64 0) hS ?_;refine tk 4 70 (.pointer (some ⟨B,0,none⟩)) hS ?_;refine tk 5 71 (.pointer (some ⟨sQ,0,none⟩)) hS ?_ (hy:= .inl ⟨by first | rfl | kernel_rfl,fun W' h=>by have q0:W'.cell? ⟨B,0,none⟩=some (.pointer (some ⟨sQ,0,none⟩)):=(by rw [(h.at 0 rfl).cell?];rfl);go_simp⟩);refine tk 6 72 (.slice pb n kb) hS ?_;refine tk 7 73 (.slice (some ⟨B+1,0,none⟩) 3 3) hS ?_;refine tk 8 74 (.int .i64 0) hS ?_;refine tk 9 75 (.int .i64 1) hS ?_;refine tk 10 76 (.pointer (some ⟨B+1,1,none⟩)) hS ?_;refine tk 11 77 (.slice (some ⟨lG,0,none⟩) (n+1) (n+1)) hS ?_ (hy:= .inl ⟨by first | rfl | kernel_rfl,fun W' h=>by have q0:W'.cell? ⟨B+1,1,none⟩=some (.slice (some ⟨lG,0,none⟩) (n+1) (n+1)):=(by rw [(h.at 1 rfl).cell?];rfl);go_simp⟩);refine iZ 12 (fun K' hK=> ?_);refine cD 78 220 #[.pointer (some ⟨sQ,0,none⟩), .slice pb n kb, .slice (some ⟨lG,0,none⟩) (n+1) (n+1)] ?_;have hL0:=aaV W9 sQ n (n+1) kb (n+1) R0 pb (some ⟨lG,0,none⟩) b (L1) (Ws Ma.out.d0 hS.b (hS.at 7 rfl)) HO.out.1 HO.out.2.2.1 (HR.out.below hS.b) (EU (xD (hS.at 6 rfl)) (by first | exact (DN n).symm | exact HL1.out.symm)) (by omega) (by omega);refine hL0.mono ?_;rintro e ni ⟨sO,rfl,hbl,hbr,JI⟩;refine ⟨_,rfl,hK.out _ _ (hS.up JI) fun hx=> ?_⟩;have Dw:=hS.add JI (VJ hbr) hbl;clear hK hL0 JI hbl hbr hS hx;clear K';simp only [sA,sB,sC];refine aP (by kernel_rfl) ?_;have q10:=(Dw.at 2 rfl).frozen 0;have c10:ni.cell? ⟨B+2,0,none⟩=some (.slice none 0 0):=by rw [(Dw.at 2 rfl).cell?];rfl
   go_upto_region 14 with (fail);have pW:=Dw.setAt 2 rfl 0 ⟨.slice (some ⟨sO,0,none⟩) (n+1) (n+1),rfl⟩;obtain ⟨V0,HV0⟩:∃V,Hid (wL R0 b (L1) (n+1)=V):=⟨_,af rfl⟩
   have Yj:Hid (V0.length=n+1):=af (by rw [← HV0.out,Jo,HL.out]);rw [HV0.out] at pW;replace pW:jh W1 (ni.setCell ⟨B+2,0,none⟩ (.slice (some ⟨sO,0,none⟩) (n+1) (n+1))) [(B,325,[opt (some ⟨sQ,0,none⟩),opt (some ⟨jZ,0,none⟩)]),(B+1,35,[on,⟨.slice (some ⟨lG,0,none⟩) (n+1) (n+1),rfl⟩,⟨.slice (some ⟨B+3,0,none⟩) (n+1) (n+1),rfl⟩]),(B+2,327,[⟨.slice (some ⟨sO,0,none⟩) (n+1) (n+1),rfl⟩,⟨.slice (some ⟨ny,0,none⟩) (n+1) (n+1),rfl⟩]),(B+3,4,(qU n).map ob),(jZ,358,lI x1.1 x1.2.1 x1.2.2 R1.cell),(ny,63,V1.map fun x=>ow (X x)),(lG,4,L1.map ob),(sQ,358,lI x0.1 x0.2.1 x0.2.2 R0.cell),(sO,63,V0.map fun x=>ow (X x))]:=pW;clear q10 c10 Dw;generalize ni.setCell ⟨B+2,0,none⟩ (.slice (some ⟨sO,0,none⟩) (n+1) (n+1))=Ff at *;clear W9 ni;have q11:=(pW.at 1 rfl).frozen 0;have c11:Ff.cell? ⟨B+1,0,none⟩=some (.slice none 0 0):=by rw [(pW.at 1 rfl).cell?];rfl
   obtain ⟨Cv,aea⟩:∃q,Hid (Ff.heap.size=q):=⟨_,af rfl⟩
   have rU:=(pW.setAt 1 rfl 0 ⟨.slice (some ⟨Cv,0,none⟩) (n+1) (n+1),rfl⟩).alloc (l:=(List.replicate (n+1) false).map ob) (t:=4) (.cells C0 4) (by rw [← tq.out,MK];rfl);rw [qcJ,aea.out] at rU;rw [show (List.replicate (n+1) false)=kM V0 0 by rw [kM,Yj.out]] at rU;have g11:B+1<Ff.heap.size:=(pW.at 1 rfl).lt;have g12:¬B+1=Ff.heap.size:=by omega
   go_upto_region 15 with (fail);rw [aea.out];replace rU:jh W1 ((Ff.setCell ⟨B+1,0,none⟩ (.slice (some ⟨Cv,0,none⟩) (n+1) (n+1))).alloc (.cells C0 4)) [(B,325,[opt (some ⟨sQ,0,none⟩),opt (some ⟨jZ,0,none⟩)]),(B+1,35,[⟨.slice (some ⟨Cv,0,none⟩) (n+1) (n+1),rfl⟩,⟨.slice (some ⟨lG,0,none⟩) (n+1) (n+1),rfl⟩,⟨.slice (some ⟨B+3,0,none⟩) (n+1) (n+1),rfl⟩]),(B+2,327,[⟨.slice (some ⟨sO,0,none⟩) (n+1) (n+1),rfl⟩,⟨.slice (some ⟨ny,0,none⟩) (n+1) (n+1),rfl⟩]),(B+3,4,(qU n).map ob),(jZ,358,lI x1.1 x1.2.1 x1.2.2 R1.cell),(ny,63,V1.map fun x=>ow (X x)),(lG,4,L1.map ob),(sQ,358,lI x0.1 x0.2.1 x0.2.2 R0.cell),(sO,63,V0.map fun x=>ow (X x)),(Cv,4,(kM V0 0).map ob)]:=rU;generalize ((Ff.setCell ⟨B+1,0,none⟩ (.slice (some ⟨Cv,0,none⟩) (n+1) (n+1))).alloc (.cells C0 4))=OU at *;clear q11 c11 pW g11 g12;have c12:OU.cell? ⟨B+2,0,none⟩=some (.slice (some ⟨sO,0,none⟩) (n+1) (n+1)):=by rw [(rU.at 2 rfl).cell?];rfl
   go_upto_region 16 with (fail);clear c12
   go_loopw [92] (fun Uy wr=>∃k:Nat,k≤n+1∧Uy= .int .i64 k∧jh W1 wr [(B,325,[opt (some ⟨sQ,0,none⟩),opt (some ⟨jZ,0,none⟩)]),(B+1,35,[⟨.slice (some ⟨Cv,0,none⟩) (n+1) (n+1),rfl⟩,⟨.slice (some ⟨lG,0,none⟩) (n+1) (n+1),rfl⟩,⟨.slice (some ⟨B+3,0,none⟩) (n+1) (n+1),rfl⟩]),(B+2,327,[⟨.slice (some ⟨sO,0,none⟩) (n+1) (n+1),rfl⟩,⟨.slice (some ⟨ny,0,none⟩) (n+1) (n+1),rfl⟩]),(B+3,4,(qU n).map ob),(jZ,358,lI x1.1 x1.2.1 x1.2.2 R1.cell),(ny,63,V1.map fun x=>ow (X x)),(lG,4,L1.map ob),(sQ,358,lI x0.1 x0.2.1 x0.2.2 R0.cell),(sO,63,V0.map fun x=>ow (X x)),(Cv,4,(kM V0 k).map ob)]) (fun Uy _=>n+1 - (intOf Uy).toNat)
   case atStart=>exact ⟨0,by omega,rfl,rU⟩
   case round=>
    clear rU;obtain ⟨k,hk,rfl,hS⟩:=hrel;by_cases hlt:k<n+1
    ·have hq:(k:Int)<(n:Int)+1:=by omega
     have cv:wr.cell? ⟨sO,k,none⟩=some (.int .u64 (X (V0.getD k 0))):=Da (IQ (hS.at 8 rfl)) k (by rw [Yj.out];exact hlt);have cl:wr.cell? ⟨B+1,0,none⟩=some (.slice (some ⟨Cv,0,none⟩) (n+1) (n+1)):=by rw [(hS.at 1 rfl).cell?];rfl
     have rx:=xD (hS.at 9 rfl);have cx:wr.cell? ⟨Cv,k,none⟩=some (.bool ((kM V0 k).getD k false)):=zg rx k (by rw [zN,Yj.out];exact hlt);have qx:=rx.frozen k;have hbit:=QT (V0.getD k 0);have hS2:=hS.setAt 9 rfl k (ob (pz (V0.getD k 0)));rw [← TW] at hS2;replace hS2:jh W1 (wr.setCell ⟨Cv,k,none⟩ (.bool (pz (V0.getD k 0)))) [(B,325,[opt (some ⟨sQ,0,none⟩),opt (some ⟨jZ,0,none⟩)]),(B+1,35,[⟨.slice (some ⟨Cv,0,none⟩) (n+1) (n+1),rfl⟩,⟨.slice (some ⟨lG,0,none⟩) (n+1) (n+1),rfl⟩,⟨.slice (some ⟨B+3,0,none⟩) (n+1) (n+1),rfl⟩]),(B+2,327,[⟨.slice (some ⟨sO,0,none⟩) (n+1) (n+1),rfl⟩,⟨.slice (some ⟨ny,0,none⟩) (n+1) (n+1),rfl⟩]),(B+3,4,(qU n).map ob),(jZ,358,lI x1.1 x1.2.1 x1.2.2 R1.cell),(ny,63,V1.map fun x=>ow (X x)),(lG,4,L1.map ob),(sQ,358,lI x0.1 x0.2.1 x0.2.2 R0.cell),(sO,63,V0.map fun x=>ow (X x)),(Cv,4,(kM V0 (k+1)).map ob)]:=hS2;generalize V0.getD k 0=z at *;generalize pz z=zb at *;clear rx hS;go_wp2_with fail
     go_roundw
     case rel=>exact ⟨k+1,by omega,by go_num,hS2⟩
     case measure=>simp [intOf]<;>omega
    ·obtain rfl:k=n+1:=by omega
     have hq:¬((n+1:Nat):Int)<(n:Int)+1:=by omega
     rw [show kM V0 (n+1)=V0.map pz by rw [← Yj.out,MQ]] at hS;obtain ⟨L0,acg⟩:∃V,Hid (V0.map pz=V):=⟨_,af rfl⟩
     have HL0:Hid (L0.length=n+1):=af (by rw [← acg.out,fD,Yj.out]);rw [acg.out] at hS;clear hlt hk;go_wp2_with fail;refine ak (n:=0) ?_;have c20:wr.cell? ⟨B+1,0,none⟩=some (.slice (some ⟨Cv,0,none⟩) (n+1) (n+1)):=by rw [(hS.at 1 rfl).cell?];rfl
     have d20:wr.cell? ⟨Cv,0,none⟩=some (.bool (L0.getD 0 false)):=zg (xD (hS.at 9 rfl)) 0 (by rw [HL0.out];omega);have e1:lv1 R1 b=V1:=by unfold lv1;rw [← HL.out];exact HV1.out
     have e2:lt1 R1 b=L1:=by unfold lt1;rw [e1];exact ab7.out
     have e3:lv0 R0 R1 b=V0:=by unfold lv0;rw [e2,← HL.out];exact HV0.out
     have e4:lt0 R0 R1 b=L0:=by unfold lt0;rw [e3];exact acg.out
     have H5:Hid (Gs R0 R1 f0 b=Cw R0 b L1 V0 f0 (n+1 - 0) 0 0 (-1)):=af (by unfold Gs;rw [e2,e3,← HL.out];rfl);have H6:Hid (∀a,VM R1 f1 b a=Cw R1 b (qU n) V1 f1 (n+1 - a) a 0 (-1)):=af (fun a=>by unfold VM;rw [e1,← HL.out]);have H4:Hid (mtF R0 R1 f0 f1 b=if L0.getD 0 false then some (Gs R0 R1 f0 b,VM R1 f1 b (Gs R0 R1 f0 b).toNat) else none):=af (by unfold mtF;rw [e4]);clear e1 e2 e3 e4;generalize L0.getD 0 false=zb at *;cases zb with
     | false=>
      go_wp2_with fail;go_ret2;rw [H4.out];exact ⟨rfl,HB1.out.trans (hS.b.mono HB1.out.size)⟩
     | true=>
      obtain ⟨a,ha,xB⟩:=HE.out;have HE0:Hid (Cw R0 b L1 V0 f0 (n+1 - 0) 0 0 (-1)=(a:Int)):=af (H5.out▸ha);obtain ⟨t1,HE1⟩:∃t,Hid (Cw R1 b (qU n) V1 f1 (n+1 - a) a 0 (-1)=t):=⟨_,af rfl⟩
      have HF:Hid (mtF R0 R1 f0 f1 b=some ((a:Int),t1)):=af (by rw [H4.out,aC rfl,ha,Sw,H6.out,HE1.out]);have m5:∀w:World,(Instr.makeSlice 271 (.int .i64 2) (.int .i64 2)).run Tryz.prog w= .ok (.slice (some ⟨w.heap.size,0,none⟩) 2 2) (w.alloc (.cells #[.int .i64 0, .int .i64 0, .int .i64 0, .int .i64 0] 275)):=fun w=>by first | rfl | kernel_rfl
      have hO:aT 2 EX (wr.alloc (.cells #[.int .i64 0, .int .i64 0, .int .i64 0, .int .i64 0] 275)) wr.heap.size 275 (.slice (some ⟨wr.heap.size,0,none⟩) 2 2) [(0,0),(0,0)]:=⟨rfl, .inr ⟨wr.heap.size,2,_,rfl,ah _,Row.new (f:=oV) (l:=[oi 0,oi 0,oi 0,oi 0]) _ _ rfl,by simp,by decide,rfl,rfl⟩⟩
      have hB:Below wr.heap.size wr (wr.alloc (.cells #[.int .i64 0, .int .i64 0, .int .i64 0, .int .i64 0] 275)):=(au _ _).alloc (ah _) _;have HS:=af hS;clear hS ha H4 H5 H6;obtain ⟨ob,Hob⟩:∃q,Hid (wr.heap.size=q):=⟨_,af rfl⟩
      replace hO:aT 2 EX (wr.alloc (.cells #[.int .i64 0, .int .i64 0, .int .i64 0, .int .i64 0] 275)) wr.heap.size 275 (.slice (some ⟨ob,0,none⟩) 2 2) [(0,0),(0,0)]:=Hob.out▸hO;go_upto_region 23 with (fail);clear m5 c20 d20;rw [Hob.out];generalize (wr.alloc (.cells #[.int .i64 0, .int .i64 0, .int .i64 0, .int .i64 0] 275))=U0 at *;go_wp2_with fail;refine uT 3 ?_;refine ak (n:=2) ?_;have cM:U0.cell? ⟨B,0,none⟩=some (.pointer (some ⟨sQ,0,none⟩)):=(hB.cell (p:=⟨B,0,none⟩) (HS.out.at 0 rfl).lt).trans (by rw [(HS.out.at 0 rfl).cell?];rfl);go_wp2_with fail;clear cM;refine aH (S:=fun XX=>Below wr.heap.size wr XX) 22 rfl (by kernel_rfl) hB.drew fun hS=> ?_;replace hO:=hO.below' (au U0.heap.size U0).drew;clear hB;generalize U0.drew=T0 at *;clear U0;refine tk 0 123 (.slice (some ⟨ob,0,none⟩) 2 2) hS ?_;refine tk 1 124 (.int .i64 0) hS ?_;refine tk 2 125 (.int .i64 0) hS ?_;refine tk 3 126 (.pointer (some ⟨sQ,0,none⟩)) hS ?_;refine tk 4 127 (.slice pb n kb) hS ?_;refine tk 5 128 (.int .i64 0) hS ?_;refine tk 6 129 (.slice (some ⟨B+1,0,none⟩) 3 3) hS ?_;refine tk 7 130 (.int .i64 0) hS ?_;refine tk 8 131 (.int .i64 1) hS ?_;refine tk 9 132 (.pointer (some ⟨B+1,1,none⟩)) hS ?_;refine tk 10 133 (.slice (some ⟨lG,0,none⟩) (n+1) (n+1)) hS ?_ (hy:= .inl ⟨by first | rfl | kernel_rfl,fun W' h=>by have q0:W'.cell? ⟨B+1,1,none⟩=some (.slice (some ⟨lG,0,none⟩) (n+1) (n+1)):=(h.cell (p:=⟨B+1,1,none⟩) (HS.out.at 1 rfl).lt).trans (by rw [(HS.out.at 1 rfl).cell?];rfl);go_simp⟩);refine tk 11 134 (.slice (some ⟨B+2,0,none⟩) 2 2) hS ?_;refine tk 12 135 (.int .i64 0) hS ?_;refine tk 13 136 (.pointer (some ⟨B+2,0,none⟩)) hS ?_;refine tk 14 137 (.slice (some ⟨sO,0,none⟩) (n+1) (n+1)) hS ?_ (hy:= .inl ⟨by first | rfl | kernel_rfl,fun W' h=>by have q0:W'.cell? ⟨B+2,0,none⟩=some (.slice (some ⟨sO,0,none⟩) (n+1) (n+1)):=(h.cell (p:=⟨B+2,0,none⟩) (HS.out.at 2 rfl).lt).trans (by rw [(HS.out.at 2 rfl).cell?];rfl);go_simp⟩);refine tk 15 138 (.slice (some ⟨pp,0,none⟩) 2 cap) hS ?_;refine tk 16 139 (.int .i64 0) hS ?_;refine tk 17 140 (.pointer (some ⟨pp,0,none⟩)) hS ?_;refine tk 18 141 (.pointer (some ⟨pp,1,none⟩)) hS ?_;refine tk 19 142 (.bool f0) hS ?_ (hy:= .inl ⟨by first | rfl | kernel_rfl,fun W' h=>by have q0:W'.cell? ⟨pp,1,none⟩=some (.bool f0):=(h.cell (p:=⟨pp,1,none⟩) (bO HpW.out HS.out.b.size)).trans ((HS.out.b.cell (p:=⟨pp,1,none⟩) HpW.out).trans (HQ.out.1 1 (by show 1<2;omega)));go_simp⟩);refine iZ 20 (fun K' hK=> ?_);refine cD 143 221 #[.pointer (some ⟨sQ,0,none⟩), .slice pb n kb, .int .i64 0, .slice (some ⟨lG,0,none⟩) (n+1) (n+1), .slice (some ⟨sO,0,none⟩) (n+1) (n+1), .bool f0] ?_;have eP:=HS.out.up hS;have hE:=adR T0 sQ n (n+1) (n+1) 0 kb (n+1) (n+1) f0 R0 pb (some ⟨lG,0,none⟩) (some ⟨sO,0,none⟩) b (L1) V0 (Ws Ma.out.d0 eP.b (eP.at 7 rfl)) HO.out.1 HO.out.2.2.1 (HR.out.below eP.b) (EU (xD (eP.at 6 rfl)) (by first | exact (DN n).symm | exact HL1.out.symm)) (EU (IQ (eP.at 8 rfl)) Yj.out.symm) (by omega) (by omega) (by omega) (by omega);rw [HE0.out] at hE;refine hE.mono ?_;rintro e P0 ⟨rfl,j,rfl⟩;refine ⟨_,rfl,hK.out _ _ (hS.trans (oO _ _ _)) fun hx=> ?_⟩;replace hO:=hO.below' (oO _ T0 j);clear hK hE eP hS;clear K';generalize T0.drewN j=P0 at *;clear T0;simp only [sA,sB,sC];refine tk 21 144 (.agg #[.int .i64 0, .int .i64 (a:Int)]) hx ?_;refine aP (by kernel_rfl) ?_
      go_wp2_with (first
       | ((with_reducible refine jA (C:= #[.int .i64 0, .int .i64 (a:Int)]) (enc:=EX) aas SK (.tmp 145) (.tmp 144) ?_ ?_ ob 2 2 0 0 rfl ?_ (0,(a:Int)) ?_ ?_ hO (by simp) ?_);rfl;rfl;rfl;rfl;rfl;(intro U1 nW jJ);(refine bN.back ?_)))
      have hB:Below wr.heap.size wr U1:=hx.grown jJ (by have:=hx.size;omega) (fun k e=>by injection e with e;rw [← e,← Hob.out];exact ah _);replace hO:aT 2 EX U1 wr.heap.size 275 (.slice (some ⟨ob,0,none⟩) 2 2) [(0,(a:Int)),(0,0)]:=nW;clear nW jJ hx;clear P0;have cO:U1.cell? ⟨ob,1,none⟩=some (.int .i64 (a:Int)):=by have:=MR hO 1 (by show 1<4;omega);rw [nR] at this;rw [this];rfl
      refine bN.out ?_;go_wp2_with fail;clear cO;refine ak (n:=1) ?_;have cM:U1.cell? ⟨B,1,none⟩=some (.pointer (some ⟨jZ,0,none⟩)):=(hB.cell (p:=⟨B,1,none⟩) (HS.out.at 0 rfl).lt).trans (by rw [(HS.out.at 0 rfl).cell?];rfl);go_wp2_with fail;clear cM;refine aH (S:=fun XX=>Below wr.heap.size wr XX) 22 rfl (by kernel_rfl) hB.drew fun hS=> ?_;replace hO:=hO.below' (au U1.heap.size U1).drew;clear hB;generalize U1.drew=T1 at *;clear U1;refine tk 0 123 (.slice (some ⟨ob,0,none⟩) 2 2) hS ?_;refine tk 1 124 (.int .i64 1) hS ?_;refine tk 2 125 (.int .i64 (a:Int)) hS ?_;refine tk 3 126 (.pointer (some ⟨jZ,0,none⟩)) hS ?_;refine tk 4 127 (.slice pb n kb) hS ?_;refine tk 5 128 (.int .i64 (a:Int)) hS ?_;refine tk 6 129 (.slice (some ⟨B+1,0,none⟩) 3 3) hS ?_;refine tk 7 130 (.int .i64 1) hS ?_;refine tk 8 131 (.int .i64 2) hS ?_;refine tk 9 132 (.pointer (some ⟨B+1,2,none⟩)) hS ?_;refine tk 10 133 (.slice (some ⟨(B+3),0,none⟩) (n+1) (n+1)) hS ?_ (hy:= .inl ⟨by first | rfl | kernel_rfl,fun W' h=>by have q0:W'.cell? ⟨B+1,2,none⟩=some (.slice (some ⟨(B+3),0,none⟩) (n+1) (n+1)):=(h.cell (p:=⟨B+1,2,none⟩) (HS.out.at 1 rfl).lt).trans (by rw [(HS.out.at 1 rfl).cell?];rfl);go_simp⟩);refine tk 11 134 (.slice (some ⟨B+2,0,none⟩) 2 2) hS ?_;refine tk 12 135 (.int .i64 1) hS ?_;refine tk 13 136 (.pointer (some ⟨B+2,1,none⟩)) hS ?_;refine tk 14 137 (.slice (some ⟨ny,0,none⟩) (n+1) (n+1)) hS ?_ (hy:= .inl ⟨by first | rfl | kernel_rfl,fun W' h=>by have q0:W'.cell? ⟨B+2,1,none⟩=some (.slice (some ⟨ny,0,none⟩) (n+1) (n+1)):=(h.cell (p:=⟨B+2,1,none⟩) (HS.out.at 2 rfl).lt).trans (by rw [(HS.out.at 2 rfl).cell?];rfl);go_simp⟩);refine tk 15 138 (.slice (some ⟨pp,0,none⟩) 2 cap) hS ?_;refine tk 16 139 (.int .i64 1) hS ?_;refine tk 17 140 (.pointer (some ⟨pp,2,none⟩)) hS ?_;refine tk 18 141 (.pointer (some ⟨pp,3,none⟩)) hS ?_;refine tk 19 142 (.bool f1) hS ?_ (hy:= .inl ⟨by first | rfl | kernel_rfl,fun W' h=>by have q0:W'.cell? ⟨pp,3,none⟩=some (.bool f1):=(h.cell (p:=⟨pp,3,none⟩) (bO HpW.out HS.out.b.size)).trans ((HS.out.b.cell (p:=⟨pp,3,none⟩) HpW.out).trans (HQ.out.2 1 (by show 1<2;omega)));go_simp⟩);refine iZ 20 (fun K' hK=> ?_);refine cD 143 221 #[.pointer (some ⟨jZ,0,none⟩), .slice pb n kb, .int .i64 (a:Int), .slice (some ⟨(B+3),0,none⟩) (n+1) (n+1), .slice (some ⟨ny,0,none⟩) (n+1) (n+1), .bool f1] ?_;have eP:=HS.out.up hS;have hE:=adR T1 jZ n (n+1) (n+1) a kb (n+1) (n+1) f1 R1 pb (some ⟨(B+3),0,none⟩) (some ⟨ny,0,none⟩) b (qU n) V1 (Ws Ma.out.d1 eP.b (eP.at 4 rfl)) HO.out.2.1 HO.out.2.2.2.1 (HR.out.below eP.b) (EU (xD (eP.at 3 rfl)) (by first | exact (DN n).symm | exact HL1.out.symm)) (EU (IQ (eP.at 5 rfl)) CW.out.symm) (by omega) (by omega) (by omega) (by omega);rw [HE1.out] at hE;refine hE.mono ?_;rintro e P1 ⟨rfl,j,rfl⟩;refine ⟨_,rfl,hK.out _ _ (hS.trans (oO _ _ _)) fun hx=> ?_⟩;replace hO:=hO.below' (oO _ T1 j);clear hK hE eP hS;clear K';generalize T1.drewN j=P1 at *;clear T1;simp only [sA,sB,sC];refine tk 21 144 (.agg #[.int .i64 (a:Int), .int .i64 t1]) hx ?_;refine aP (by kernel_rfl) ?_
      go_wp2_with (first
       | ((with_reducible refine jA (C:= #[.int .i64 (a:Int), .int .i64 t1]) (enc:=EX) aas SK (.tmp 145) (.tmp 144) ?_ ?_ ob 2 2 1 2 rfl ?_ ((a:Int),t1) ?_ ?_ hO (by simp) ?_);rfl;rfl;rfl;rfl;rfl;(intro U2 nW jJ);(refine bN.back ?_)))
      have hB:Below wr.heap.size wr U2:=hx.grown jJ (by have:=hx.size;omega) (fun k e=>by injection e with e;rw [← e,← Hob.out];exact ah _);replace hO:aT 2 EX U2 wr.heap.size 275 (.slice (some ⟨ob,0,none⟩) 2 2) [(0,(a:Int)),((a:Int),t1)]:=nW;clear nW jJ hx;clear P1;have cO:U2.cell? ⟨ob,3,none⟩=some (.int .i64 t1):=by have:=MR hO 3 (by show 3<4;omega);rw [nR] at this;rw [this];rfl
      refine bN.out ?_;go_wp2_with fail;clear cO;refine ak (n:=0) ?_;go_wp2_with fail;go_ret2;rw [HF.out];exact ⟨⟨ob,rfl,by rw [← Hob.out];exact aL HB1.out.size HS.out.b.size,Uv hO⟩,HB1.out.trans ((HS.out.b.trans (hB.mono HS.out.b.size)).mono HB1.out.size)⟩
end Go.Proofs.YtncnfncglacheaaGreatDoor
