/- Part of a proof. -/
import Derived.Test.YtncnfncglacheaaGreatDoorFJoint
import Derived.Test.YtncnfncglacheaaGreatDoorFClSort
set_option linter.all false
set_option maxRecDepth 100000
set_option maxHeartbeats 64000000
namespace Go.Proofs.YtncnfncglacheaaGreatDoor
open Go Go.RowKit Mem
def fU (k:Int) (c:Cl) (x y lo hi:Int):List OC:=[oi k,ow (X c.a),ow (X c.b),ow (X c.c),ow (X c.d),oi x,oi y,oi lo,oi hi]
def kY (k:Int) (c:Cl) (x y lo hi:Int):Array Value:=((fU k c x y lo hi).map oV).toArray
theorem ql:bU Tryz.prog 157 9:=⟨fun _=>by kernel_rfl,fun _=>by kernel_rfl⟩
theorem Pf {w:World} {b:Nat} {t:TypeId} {k:Int} {c:Cl} {x y lo hi:Int} (h:Row oV w b t (fU k c x y lo hi)):At oV w b 1 (aJ c):=fun j hj=>by
 rw [h.cell?]
 match j,hj with
 | 0,_=>rfl
 | 1,_=>rfl
 | 2,_=>rfl
 | 3,_=>rfl
def RnS (w W:World) (l:List OC):Prop:=Below w.heap.size w W∧Row oV W w.heap.size 157 l∧Row oV W (w.heap.size+1) 79 [on,on,on]∧w.heap.size+2≤W.heap.size
theorem RnS.up {w W X:World} {l:List OC} (h:RnS w W l) (hB:Below W.heap.size W X):RnS w X l:=
 ⟨h.1.trans (hB.mono h.1.size),h.2.1.below hB h.2.1.lt,h.2.2.1.below hB h.2.2.1.lt,aL h.2.2.2 hB.size⟩
theorem node3 (w:World) (vl:Value) (c:Cl) (x y lo hi:Int) (hc:c.Let) (hT:iw w) (htl:1<w.heap.size):
  Calls Tryz.prog 99 #[.agg (kY 3 c x y lo hi),vl] w fun e w'=>∃v,e= .returned v∧fQ w' v (.ok (bT (dm c)).canon)∧Below w.heap.size w w':=by
 have HC:=af hc;have HT:=af hT;have iL:=af htl;have yC:=af (jO hc.v.toOk);have HL:=af fun W hW hWl=>Xp W c hc hW hWl;obtain ⟨R,HRR⟩:∃D,Hid ((bT (dm c)).canon=D):=⟨_,af rfl⟩
 have tJ:Hid R.Ok:=af (HRR.out▸yC.out.canon.1);rw [HRR.out] at HL ⊢;have HE:Hid (∀(w':World) u,dA w' u R→fQ w' (.tuple #[u, .int .i64 0]) (.ok R)):=af (fun w' u h=>⟨u,rfl,h⟩);clear hc hT htl
 obtain ⟨W,hW,hS⟩:∃W,((w.alloc (.cells (kY 3 c x y lo hi) 157)).alloc (.cells #[.slice none 0 0, .slice none 0 0, .slice none 0 0] 79))=W∧RnS w W (fU 3 c x y lo hi):=by
  have s1:(w.alloc (.cells (kY 3 c x y lo hi) 157)).heap.size=w.heap.size+1:=bR _ _;have r1:Row oV (w.alloc (.cells (kY 3 c x y lo hi) 157)) w.heap.size 157 (fU 3 c x y lo hi):=Row.new _ _ rfl;have r2:=Row.new (f:=oV) (w.alloc (.cells (kY 3 c x y lo hi) 157)) (t:=79) (l:=[on,on,on]) (.cells #[.slice none 0 0, .slice none 0 0, .slice none 0 0] 79) rfl;rw [s1] at r2;exact ⟨_,rfl,((au _ _).alloc (ah _) _).alloc (by rw [s1];omega) _,r1.alloc _,r2,by rw [bR,s1];omega⟩
 go_enter Tryz.func99,Tryz.ntmps99;go_upto_region 1 with (fail);have hk:W.cell? ⟨w.heap.size,0,none⟩=some (.int .i64 3):=by rw [hS.2.1.cell?];rfl
 have hcl:=Pf hS.2.1
 first | rw [hW] | skip
 clear hW;go_wp2_with ((with_reducible refine zL hcl ay rfl (C:=ax c) ?_));refine (HL.out W (HT.out.below hS.1 iL.out) (bO iL.out hS.1.size)).mono ?_;rintro e W7 ⟨v,rfl,⟨u,rfl,hr⟩,gU⟩;replace hS:=hS.up gU;clear gU hk hcl;obtain ⟨r1,ja,r2,iW,r3,iX,rfl⟩:=hr.parts;obtain ⟨iD,PX⟩:∃n,Hid (R.cls.length=n):=⟨_,af rfl⟩
 obtain ⟨gF,Py⟩:∃n,Hid (R.nx.length=n):=⟨_,af rfl⟩
 obtain ⟨iF,Ow⟩:∃n,Hid (R.ac.length=n):=⟨_,af rfl⟩
 rw [PX.out,Py.out,Ow.out] at hr ⊢;have yl:=hS.2.2.1;go_wp2_with ((with_reducible refine zS (l':=bL r1 iD ja r2 gF iW r3 iF iX) yl bQ ?_);(intro WZ Fb vT XB));refine fJ (v:= .tuple #[.agg #[.slice r1 iD ja, .slice r2 gF iW, .slice r3 iF iX], .int .i64 0]) (bG (f:=oV) (l:=bL r1 iD ja r2 gF iW r3 iF iX) (t:=5) rfl _ bQ (w.heap.size+1) 0 rfl Fb.at) rfl ?_;exact ⟨_,rfl,HE.out _ _ (hr.avoid tJ.out yl vT),hS.1.grown vT hS.1.size (fun k e=>by injection e with e;omega)⟩
def KX (D:DF) (low:Int) (R:DF):Prop:=∀(w:World) (vd:Value),dA w vd D→iw w→1<w.heap.size→
  Calls Tryz.prog 141 #[vd, .int .i64 low, .int .i64 (-1)] w fun e w'=>∃v,e= .returned v∧fQ w' v (.ok R)∧Below w.heap.size w w'
theorem node8 (w:World) (bl n cap:Nat) (c:Cl) (y lo:Int) (d1 d2 d3:Option Addr) (eZ dk1 eY dk2 fe dk3:Nat) (D R:DF) (hl:At oV w bl 0 (bL d1 eZ dk1 d2 eY dk2 d3 fe dk3)) (hbl:bl<w.heap.size) (hn:0<n) (hd:dA w (.agg #[.slice d1 eZ dk1, .slice d2 eY dk2, .slice d3 fe dk3]) D) (hrep:KX D lo R) (Eu:R.Ok) (hT:iw w) (htl:1<w.heap.size):
  Calls Tryz.prog 99 #[.agg (kY 8 c 0 y lo (-1)), .slice (some ⟨bl,0,none⟩) n cap] w fun e w'=>∃v,e= .returned v∧fQ w' v (.ok R)∧Below w.heap.size w w':=by
 have HT:=af hT;have iL:=af htl;have HD:=af hd;have HA:=af hl;have tJ:=af Eu;have HRP:=af hrep;have HE:Hid (∀(w':World) u,dA w' u R→fQ w' (.tuple #[u, .int .i64 0]) (.ok R)):=af (fun w' u h=>⟨u,rfl,h⟩);clear hl hd hrep Eu hT htl
 obtain ⟨W,hW,hS⟩:∃W,((w.alloc (.cells (kY 8 c 0 y lo (-1)) 157)).alloc (.cells #[.slice none 0 0, .slice none 0 0, .slice none 0 0] 79))=W∧RnS w W (fU 8 c 0 y lo (-1)):=by
  have s1:(w.alloc (.cells (kY 8 c 0 y lo (-1)) 157)).heap.size=w.heap.size+1:=bR _ _;have r1:Row oV (w.alloc (.cells (kY 8 c 0 y lo (-1)) 157)) w.heap.size 157 (fU 8 c 0 y lo (-1)):=Row.new _ _ rfl;have r2:=Row.new (f:=oV) (w.alloc (.cells (kY 8 c 0 y lo (-1)) 157)) (t:=79) (l:=[on,on,on]) (.cells #[.slice none 0 0, .slice none 0 0, .slice none 0 0] 79) rfl;rw [s1] at r2;exact ⟨_,rfl,((au _ _).alloc (ah _) _).alloc (by rw [s1];omega) _,r1.alloc _,r2,by rw [bR,s1];omega⟩
 go_enter Tryz.func99,Tryz.ntmps99;go_upto_region 1 with (fail);have hk:W.cell? ⟨w.heap.size,0,none⟩=some (.int .i64 8):=by rw [hS.2.1.cell?];rfl
 first | rw [hW] | skip
 clear hW;go_upto_region 16 with (fail);clear hk;have hn2:(0:Int)<n:=by omega
 have hR:=hS;clear hS;have hc5:∀X,Below W.heap.size W X→X.cell? ⟨w.heap.size,5,none⟩=some (.int .i64 0):=fun X h=>by rw [(hR.up h).2.1.cell?];rfl
 have hc7:∀X,Below W.heap.size W X→X.cell? ⟨w.heap.size,7,none⟩=some (.int .i64 lo):=fun X h=>by rw [(hR.up h).2.1.cell?];rfl
 have hc8:∀X,Below W.heap.size W X→X.cell? ⟨w.heap.size,8,none⟩=some (.int .i64 (-1)):=fun X h=>by rw [(hR.up h).2.1.cell?];rfl
 refine aH (S:=fun Y=>Below W.heap.size W Y) 12 rfl (by kernel_rfl) (au _ _).drew fun hS=> ?_;refine tk 0 80 (.slice (some ⟨bl,0,none⟩) n cap) hS ?_;refine tk 1 81 (.pointer (some ⟨w.heap.size,5,none⟩)) hS ?_;refine tk 2 82 (.int .i64 0) hS ?_ rfl (qi fun W' h=>by have q:=hc5 W' h;go_simp);refine tk 3 83 (.pointer (some ⟨bl,0,none⟩)) hS ?_ rfl yg;refine tk 4 84 (.agg #[.slice d1 eZ dk1, .slice d2 eY dk2, .slice d3 fe dk3]) hS ?_ rfl (aA (f:=oV) (l:=bL d1 eZ dk1 d2 eY dk2 d3 fe dk3) bQ (.tmp 83) rfl bl 0 rfl (fun W' h=>(HA.out.below hR.1 hbl).below h (bO hbl hR.1.size)) rfl rfl);refine tk 5 85 (.pointer (some ⟨w.heap.size,7,none⟩)) hS ?_;refine tk 6 86 (.int .i64 lo) hS ?_ rfl (qi fun W' h=>by have q:=hc7 W' h;go_simp);refine tk 7 87 (.pointer (some ⟨w.heap.size,8,none⟩)) hS ?_;refine tk 8 88 (.int .i64 (-1)) hS ?_ rfl (qi fun W' h=>by have q:=hc8 W' h;go_simp);refine iZ 9 (fun K' hK=> ?_);refine cD 89 141 #[.agg #[.slice d1 eZ dk1, .slice d2 eY dk2, .slice d3 fe dk3], .int .i64 lo, .int .i64 (-1)] ?_;have hw:=(hR.up hS).1;refine (HRP.out W.drew _ (HD.out.below hw) (HT.out.below hw iL.out) (bO iL.out hw.size)).mono ?_;rintro e W7 ⟨v,rfl,⟨u,rfl,hr⟩,gU⟩;obtain ⟨r1,ja,r2,iW,r3,iX,rfl⟩:=hr.parts;obtain ⟨iD,PX⟩:∃n,Hid (R.cls.length=n):=⟨_,af rfl⟩
 obtain ⟨gF,Py⟩:∃n,Hid (R.nx.length=n):=⟨_,af rfl⟩
 obtain ⟨iF,Ow⟩:∃n,Hid (R.ac.length=n):=⟨_,af rfl⟩
 rw [PX.out,Py.out,Ow.out] at hr ⊢;have jy:=hS.trans (gU.mono hS.size);refine ⟨_,rfl,hK.out _ _ jy fun _=> ?_⟩;clear hK gU hS hw;have hS:=jy;simp only [sA,sB,sC];refine tk 10 90 (.agg #[.slice r1 iD ja, .slice r2 gF iW, .slice r3 iF iX]) hS ?_;refine tk 11 91 (.int .i64 0) hS ?_;refine aP (by kernel_rfl) ?_;simp only [List.drop];have yl:=(hR.up jy).2.2.1;have gU:=(hR.up jy).1;go_wp2_with ((with_reducible refine zS (l':=bL r1 iD ja r2 gF iW r3 iF iX) yl bQ ?_);(intro WZ Fb vT XB));refine fJ (v:= .tuple #[.agg #[.slice r1 iD ja, .slice r2 gF iW, .slice r3 iF iX], .int .i64 0]) (bG (f:=oV) (l:=bL r1 iD ja r2 gF iW r3 iF iX) (t:=5) rfl _ bQ (w.heap.size+1) 0 rfl Fb.at) rfl ?_;exact ⟨_,rfl,HE.out _ _ (hr.avoid tJ.out yl vT),gU.grown vT gU.size (fun k e=>by injection e with e;omega)⟩
def vB (w:World) (v:Value):Prop:=(∃p n k,v= .slice p n k)∧∀l:List Nat,0<l.length→¬Rd nV w v l
theorem xO (w:World):vB w (.slice none 0 0):=⟨⟨_,_,_,rfl⟩,fun l h h2=>by
 obtain ⟨_,_,_,e,_⟩:=oL h2 h
 cases e⟩
theorem dA.abJ {w:World} {P:DF} {p1 p2 p3:Option Addr} {n1 k1 n2 k2 n3 k3:Nat} (hp:dA w (.agg #[.slice p1 n1 k1, .slice p2 n2 k2, .slice p3 n3 k3]) P) (hP:P.Ok):vB w (.slice p1 n1 k1)∧vB w (.slice p2 n2 k2)∧vB w (.slice p3 n3 k3):=by
 obtain ⟨wc,wn,wa,ew,q1,q2,q3⟩:=hp;injection ew with ew
 simp only [TU,Hg,G5] at ew;obtain ⟨rfl,rfl,rfl⟩:=ew;have hpc:=hP.c1;have hpn:=hP.n1;have hpa:=hP.ac;refine ⟨⟨⟨_,_,_,rfl⟩,fun l h0 e2=> ?_⟩,⟨⟨_,_,_,rfl⟩,fun l h0 e2=> ?_⟩,⟨⟨_,_,_,rfl⟩,fun l h0 e2=> ?_⟩⟩
 ·obtain ⟨bb,oo,x,rfl,hx⟩:=oL e2 h0;rcases q1 with ⟨_,_,e⟩ | ⟨b2,o2,c2,e,_,ha2,_⟩
  ·rw [e] at hpc;exact absurd hpc (by simp)
  ·injection e with e
   injection e with e
   injection e with ea eb
   subst ea eb;have:=ha2 0 (by omega) 0 (by show 0<4;omega);simp only [Ty,x8] at this;rw [hx] at this;cases this
 ·obtain ⟨bb,oo,x,rfl,hx⟩:=oL e2 h0;rcases q2 with ⟨_,_,e⟩ | ⟨b2,o2,c2,e,_,ha2,_⟩
  ·rw [e] at hpn;exact absurd hpn (by simp)
  ·injection e with e
   injection e with e
   injection e with ea eb
   subst ea eb;obtain ⟨u,hu1,hu2⟩:=ha2 0 (by omega);simp only [x8] at hu1;rw [hx] at hu1;injection hu1 with hu1
   subst hu1;rcases hu2 with ⟨_,e,_⟩ | ⟨_,_,_,e,_⟩<;>cases e
 ·obtain ⟨bb,oo,x,rfl,hx⟩:=oL e2 h0;rcases q3 with ⟨_,_,e⟩ | ⟨b2,o2,c2,e,_,ha2,_⟩
  ·rw [e] at hpa;simp at hpa;omega
  ·injection e with e
   injection e with e
   injection e with ea eb
   subst ea eb;have h03:0<P.ac.length:=by omega
   have:=ha2 0 h03;rw [bM h03] at this;simp only [x8] at this;rw [hx] at this;cases this
theorem Js {α:Type} {f:α→Value} {w w':World} {v:Value} {l:List α} {b:Nat} (h:Rd f w v l) (hf:∀x p n k,f x≠ .slice p n k) (hc:∀i v,w.cell? ⟨b,i,none⟩=some v→vB w v) (hg:w.grownBy w' (some b)):Rd f w' v l:=by
 rcases h with hn | ⟨g,o,cap,rfl,hcp,ha,hlt⟩
 ·exact .inl hn
 ·by_cases h0:0<l.length
  ·refine .inr ⟨g,o,cap,rfl,hcp,ha.grown hg hlt (fun e=> ?_),bO hlt hg.size⟩;injection e with e
   subst e;have:=ha 0 h0;rw [bM h0] at this;obtain ⟨⟨p,n,k,e⟩,_⟩:=hc _ _ this;exact hf _ _ _ _ e
  ·exact .inr ⟨g,o,cap,rfl,hcp,fun i hi=>by omega,bO hlt hg.size⟩
theorem dA.DZ {w w':World} {v:Value} {D:DF} {b:Nat} (h:dA w v D) (hD:D.Ok) (hc:∀i v,w.cell? ⟨b,i,none⟩=some v→vB w v) (hg:w.grownBy w' (some b)):dA w' v D:=by
 obtain ⟨vc,vn,va,rfl,h1,h2,h3⟩:=h;refine ⟨vc,vn,va,rfl,?_,?_,Js h3 (fun x _ _ _ e=>by cases e) hc hg⟩
 ·rcases h1 with hn | ⟨g,o,cap,rfl,hcp,ha,hlt⟩
  ·exact .inl hn
  ·refine .inr ⟨g,o,cap,rfl,hcp,fun i hi=>(ha i hi).grown hg hlt (fun e=> ?_),bO hlt hg.size⟩;injection e with e
   subst e;have:=ha i hi 0 (by show 0<4;omega);obtain ⟨⟨p,n,k,e⟩,_⟩:=hc _ _ this;cases e
 ·rcases h2 with hn | ⟨g,o,cap,rfl,hcp,ha,hlt⟩
  ·exact .inl hn
  ·refine .inr ⟨g,o,cap,rfl,hcp,fun i hi=> ?_,bO hlt hg.size⟩;obtain ⟨u,e1,e2⟩:=ha i hi;refine ⟨u,(nU (a:=⟨g,o+i,none⟩) (hg.block g hlt (fun e=> ?_))).trans e1,Js e2 (fun x _ _ _ e=>by cases e) hc hg⟩;injection e with e
   subst e;have hl:=hD.rw _ (pJ hi);have hc1:=hD.c1;exact (hc _ _ e1).2 _ (by omega) e2
def sS (x:OC×OC×OC):List OC:=[x.1,x.2.1,x.2.2]
theorem pO (x:OC×OC×OC):(sS x).length=3:=rfl
def tV (p1:Option Addr) (n1 k1:Nat) (p2:Option Addr) (n2 k2:Nat) (p3:Option Addr) (n3 k3:Nat):OC×OC×OC:=(⟨.slice p1 n1 k1,rfl⟩,⟨.slice p2 n2 k2,rfl⟩,⟨.slice p3 n3 k3,rfl⟩)
structure Im (w W:World) (re bl:Nat) (c:Cl) (lo:Int) (l:List (OC×OC×OC)):Prop where
 b:Below w.heap.size w W
 r:Row oV W w.heap.size 79 [on,on,on]
 n0:At oV W re 0 (fU 3 c 0 0 0 0)
 n1:At oV W re 9 (fU 8 ⟨0,0,0,0⟩ 0 0 lo (-1))
 l:aT 3 sS W (w.heap.size+1) 79 (.slice (some ⟨bl,0,none⟩) 2 2) l
 re:re<w.heap.size
theorem Im.up {w W X:World} {re bl:Nat} {c:Cl} {lo:Int} {l:List (OC×OC×OC)} (h:Im w W re bl c lo l) (hB:Below W.heap.size W X):Im w X re bl c lo l:=
 have hre:=bO h.re h.b.size
 ⟨h.b.trans (hB.mono h.b.size),h.r.below hB h.r.lt,h.n0.below hB hre,h.n1.below hB hre,h.l.below' hB,h.re⟩
theorem Im.row {w W:World} {re bl:Nat} {c:Cl} {lo:Int} {l:List (OC×OC×OC)} (h:Im w W re bl c lo l):w.heap.size+1≤bl∧bl<W.heap.size:=h.l.lt bl rfl
theorem Im.store {w W W':World} {re bl:Nat} {c:Cl} {lo:Int} {l l':List (OC×OC×OC)} (h:Im w W re bl c lo l) (hG:W.grownBy W' (some bl)) (hO:aT 3 sS W' (w.heap.size+1) 79 (.slice (some ⟨bl,0,none⟩) 2 2) l'):Im w W' re bl c lo l':=by
 have hbl:=h.row;have hre:=h.re;have hb:=h.b.size;exact ⟨h.b.grown hG hb (fun k e=>by injection e with e;omega),h.r.grown hG (fun e=>by injection e with e;omega),h.n0.grown hG (by omega) (fun e=>by injection e with e;omega),h.n1.grown hG (by omega) (fun e=>by injection e with e;omega),hO,h.re⟩
theorem Cq {W:World} {base:Nat} {e:TypeId} {bl:Nat} {l:List (OC×OC×OC)} (h:aT 3 sS W base e (.slice (some ⟨bl,0,none⟩) 2 2) l) (hl:l.length=2) (i:Nat) (v:Value) (hv:W.cell? ⟨bl,i,none⟩=some v):∃x∈l,v=oV x.1∨v=oV x.2.1∨v=oV x.2.2:=by
 rcases h.2 with ⟨h0,_⟩ | ⟨g2,cap,cur,he,hbg,hc,hn,hm,hs,ht⟩
 ·cases h0
 ·injection he with he1 he2 GZ
  injection he1 with he1
  injection he1 with he1 _ _
  subst he1 GZ;unfold World.cell? at hv;rw [hc] at hv;simp only at hv;have hv2:cur[i]?=some v:=hv
  have hm2:v∈cur.toList:=by
   rw [Array.mem_toList_iff];exact qdw hv2
  have htk:cur.toList.take (l.length * 3)=cur.toList:=qj (by rw [Io (xs:=cur),hs,hl];exact ah _);rw [← htk,ht] at hm2;obtain ⟨y,hy,rfl⟩:=wS.1 hm2;obtain ⟨x,hx,hyx⟩:=UJ.1 hy;refine ⟨x,hx,?_⟩;simp only [sS,nA,Bp,BJ] at hyx;rcases hyx with rfl | rfl | rfl
  ·exact .inl rfl
  ·exact .inr (.inl rfl)
  ·exact .inr (.inr rfl)
theorem acW (w:World) (re cap:Nat) (c:Cl) (lo:Int) (R:DF) (h0:At oV w re 0 (fU 3 c 0 0 0 0)) (h1:At oV w re 9 (fU 8 ⟨0,0,0,0⟩ 0 0 lo (-1))) (hre:re<w.heap.size) (hc:c.Let) (hrep:KX (bT (dm c)).canon lo R) (Eu:R.Ok)
  (hval:∀W,Below w.heap.size w W→Calls Tryz.prog 98 #[.slice (some ⟨re,0,none⟩) 2 cap] W fun e w'=>e= .returned (.int .i64 0)∧Below W.heap.size W w') (hT:iw w) (htl:1<w.heap.size):
  Calls Tryz.prog 62 #[.slice (some ⟨re,0,none⟩) 2 cap] w fun e w'=>∃v,e= .returned v∧fQ w' v (.ok R)∧Below w.heap.size w w':=by
 have HC:=af hc;have HT:=af hT;have iL:=af htl;have HV:=af hval;have tJ:=af Eu;have HRP:=af hrep;have yC:=af (jO hc.v.toOk);obtain ⟨D,HDD⟩:∃D,Hid ((bT (dm c)).canon=D):=⟨_,af rfl⟩
 have Ie:Hid D.Ok:=af (HDD.out▸yC.out.canon.1);rw [HDD.out] at HRP;have HE:Hid (∀(w':World) u,dA w' u R→fQ w' (.tuple #[u, .int .i64 0]) (.ok R)):=af (fun w' u h=>⟨u,rfl,h⟩);have hb0:Below w.heap.size w (w.alloc (.cells #[.slice none 0 0, .slice none 0 0, .slice none 0 0] 79)):=(au _ _).alloc (ah _) _;have hr0:Row oV (w.alloc (.cells #[.slice none 0 0, .slice none 0 0, .slice none 0 0] 79)) w.heap.size 79 [on,on,on]:=Row.new _ _ rfl;have s0:(w.alloc (.cells #[.slice none 0 0, .slice none 0 0, .slice none 0 0] 79)).heap.size=w.heap.size+1:=bR _ _;clear hc hrep Eu hval hT htl;go_enter Tryz.func62,Tryz.ntmps62;go_upto_region 1 with (fail);generalize (w.alloc (.cells #[.slice none 0 0, .slice none 0 0, .slice none 0 0] 79))=Wx at hb0 hr0 s0 ⊢;go_wp2_with fail;refine (HV.out Wx hb0).mono ?_;rintro e W1 ⟨rfl,hB1⟩;have hb1:=hb0.trans (hB1.mono hb0.size);have hr1:=hr0.below hB1 hr0.lt;have s1:w.heap.size+1≤W1.heap.size:=s0▸hB1.size;clear hb0 hr0 s0 hB1;have hmk:∀w:World,(Instr.makeSlice 204 (.int .i64 2) (.int .i64 2)).run Tryz.prog w= .ok (.slice (some ⟨w.heap.size,0,none⟩) 2 2) (w.alloc (.cells #[.slice none 0 0, .slice none 0 0, .slice none 0 0, .slice none 0 0, .slice none 0 0, .slice none 0 0] 79)):=fun w=>by first | rfl | kernel_rfl
 go_upto_region 5 with (fail);clear hmk
 have hS:Im w (W1.alloc (.cells #[.slice none 0 0, .slice none 0 0, .slice none 0 0, .slice none 0 0, .slice none 0 0, .slice none 0 0] 79)) re W1.heap.size c lo [(tV none 0 0 none 0 0 none 0 0),(tV none 0 0 none 0 0 none 0 0)]:=by
  have hal:Below W1.heap.size W1 (W1.alloc (.cells #[.slice none 0 0, .slice none 0 0, .slice none 0 0, .slice none 0 0, .slice none 0 0, .slice none 0 0] 79)):=(au _ _).alloc (ah _) _;have hrow:Row oV (W1.alloc (.cells #[.slice none 0 0, .slice none 0 0, .slice none 0 0, .slice none 0 0, .slice none 0 0, .slice none 0 0] 79)) W1.heap.size 79 [on,on,on,on,on,on]:=Row.new _ _ rfl;have hb2:=hb1.trans (hal.mono hb1.size);exact ⟨hb2,hr1.below hal hr1.lt,h0.below hb2 hre,h1.below hb2 hre,⟨rfl, .inr ⟨W1.heap.size,2,_,rfl,s1,hrow,by simp,by decide,rfl,rfl⟩⟩,hre⟩
 change Code.wp _ _ _ _ (W1.alloc (.cells #[.slice none 0 0, .slice none 0 0, .slice none 0 0, .slice none 0 0, .slice none 0 0, .slice none 0 0] 79));generalize (W1.alloc (.cells #[.slice none 0 0, .slice none 0 0, .slice none 0 0, .slice none 0 0, .slice none 0 0, .slice none 0 0] 79))=W2 at hS ⊢;generalize W1.heap.size=bl at hS ⊢;clear hb1 hr1 s1 h0 h1;go_wp2_with fail;refine uT 3 ?_;refine ak (n:=2) ?_;have hn:=hS.n0;have hZ:Row oV (W2.alloc (.cells #[.int .i64 0, .int .u64 0, .int .u64 0, .int .u64 0, .int .u64 0, .int .i64 0, .int .i64 0, .int .i64 0, .int .i64 0] 157)) W2.heap.size 157 (fU 0 ⟨0,0,0,0⟩ 0 0 0 0):=Row.new _ _ rfl;have EC:Hid ((kY 3 c 0 0 0 0)=((fU 3 c 0 0 0 0).map oV).toArray):=af rfl
 go_wp2_with (first
  | ((with_reducible refine aU (f:=oV) (l:=fU 3 c 0 0 0 0) (C:=kY 3 c 0 0 0 0) ql (.tmp 24) ?_ ?_ re 0 ?_ hn rfl ?_);rfl;rfl;rfl)
  | ((with_reducible refine aK (f:=oV) (l:=fU 0 ⟨0,0,0,0⟩ 0 0 0 0) (l':=fU 3 c 0 0 0 0) (t:=157) (C:=kY 3 c 0 0 0 0) ql (.tmp 7) (.tmp 25) ?_ ?_ W2.heap.size ?_ ?_ ?_ hZ ?_ bF ?_);rfl;rfl;rfl;rfl;rfl;rfl;(intro W0a hr2 hG2 hz2);(refine bN.back ?_)))
 have hB2:Below W2.heap.size W2 W0a:=((au _ _).alloc (ah _) _).grown hG2 (by simp) (fun k e=>by injection e with e;rw [← e];exact ah _);replace hS:=hS.up hB2;clear hn hZ hG2 hz2 hB2;generalize W2.heap.size=tn at hr2 ⊢;refine bN.out ?_;go_wp2_with ((with_reducible refine aU (f:=oV) (l:=fU 3 c 0 0 0 0) (C:=kY 3 c 0 0 0 0) ql (.tmp 7) ?_ ?_ tn 0 ?_ hr2.at rfl ?_);rfl;rfl;rfl);refine (node3 W0a _ c 0 0 0 0 HC.out (HT.out.below hS.b iL.out) (bO iL.out hS.b.size)).mono ?_;rw [HDD.out];rintro e GK ⟨v,rfl,⟨u,rfl,hu0⟩,hB3⟩;replace hS:=hS.up hB3;clear hB3 hr2;obtain ⟨d1,dk1,d2,dk2,d3,dk3,rfl⟩:=hu0.parts;obtain ⟨eZ,P9⟩:∃n,Hid (D.cls.length=n):=⟨_,af rfl⟩
 obtain ⟨eY,Pw⟩:∃n,Hid (D.nx.length=n):=⟨_,af rfl⟩
 obtain ⟨fe,Pe⟩:∃n,Hid (D.ac.length=n):=⟨_,af rfl⟩
 rw [P9.out,Pw.out,Pe.out] at hu0 ⊢;go_upto_region 9 with (fail);have hal:Below GK.heap.size GK (GK.alloc (.cells #[.slice d1 eZ dk1, .slice d2 eY dk2, .slice d3 fe dk3] 79)):=(au _ _).alloc (ah _) _;have hrw:Row oV (GK.alloc (.cells #[.slice d1 eZ dk1, .slice d2 eY dk2, .slice d3 fe dk3] 79)) GK.heap.size 79 (bL d1 eZ dk1 d2 eY dk2 d3 fe dk3):=Row.new _ _ rfl;replace hS:=hS.up hal;replace hu0:=hu0.below hal;clear hal;change Code.wp _ _ _ _ (GK.alloc (.cells #[.slice d1 eZ dk1, .slice d2 eY dk2, .slice d3 fe dk3] 79));generalize (GK.alloc (.cells #[.slice d1 eZ dk1, .slice d2 eY dk2, .slice d3 fe dk3] 79))=adV at hS hrw hu0 ⊢;generalize GK.heap.size=tm at hrw ⊢;have hO:=hS.l
 go_wp2_with (first
  | ((with_reducible refine aU (f:=oV) (l:=bL d1 eZ dk1 d2 eY dk2 d3 fe dk3) (C:= #[.slice d1 eZ dk1, .slice d2 eY dk2, .slice d3 fe dk3]) bQ (.tmp 8) ?_ ?_ tm 0 ?_ hrw.at ?_ ?_);rfl;rfl;rfl;rfl)
  | ((with_reducible refine jA (C:= #[.slice d1 eZ dk1, .slice d2 eY dk2, .slice d3 fe dk3]) (enc:=sS) bQ pO (.tmp 39) (.tmp 38) ?_ ?_ bl 2 2 0 0 rfl ?_ (tV d1 eZ dk1 d2 eY dk2 d3 fe dk3) ?_ ?_ hO (by simp) ?_);rfl;rfl;rfl;rfl;rfl;(intro Ke nW jJ);(refine bN.back ?_)))
 have hnr:∀i v,adV.cell? ⟨bl,i,none⟩=some v→vB adV v:=fun i v hv=>by
  obtain ⟨x,hx,hv⟩:=Cq hO rfl i v hv;simp only [nA,Bp,BJ,or_self] at hx;subst hx;rcases hv with rfl | rfl | rfl<;>exact xO _
 have KZ:=hu0.DZ Ie.out hnr jJ;have KG:=hS.store jJ nW;clear hS hrw hu0 hO hnr jJ nW;have hS:Im w Ke re bl c lo [(tV d1 eZ dk1 d2 eY dk2 d3 fe dk3),(tV none 0 0 none 0 0 none 0 0)]:=KG;have hu0:=KZ;clear KG KZ;refine bN.out ?_;go_wp2_with fail
 have hEl:Hid (∀W,Im w W re bl c lo [(tV d1 eZ dk1 d2 eY dk2 d3 fe dk3),(tV none 0 0 none 0 0 none 0 0)]→At oV W bl 0 (bL d1 eZ dk1 d2 eY dk2 d3 fe dk3)):=af fun W h=>by
  obtain ⟨_,eK,_,hx⟩:=gG pO h.l 0 (by simp);injection eK with eK
  injection eK with eK
  subst eK;exact hx
 refine ak (n:=1) ?_;have hn:=hS.n1;have hZ:Row oV (Ke.alloc (.cells #[.int .i64 0, .int .u64 0, .int .u64 0, .int .u64 0, .int .u64 0, .int .i64 0, .int .i64 0, .int .i64 0, .int .i64 0] 157)) Ke.heap.size 157 (fU 0 ⟨0,0,0,0⟩ 0 0 0 0):=Row.new _ _ rfl;have EC:Hid ((kY 8 ⟨0,0,0,0⟩ 0 0 lo (-1))=((fU 8 ⟨0,0,0,0⟩ 0 0 lo (-1)).map oV).toArray):=af rfl
 go_wp2_with (first
  | ((with_reducible refine aU (f:=oV) (l:=fU 8 ⟨0,0,0,0⟩ 0 0 lo (-1)) (C:=kY 8 ⟨0,0,0,0⟩ 0 0 lo (-1)) ql (.tmp 24) ?_ ?_ re 9 ?_ hn rfl ?_);rfl;rfl;rfl)
  | ((with_reducible refine aK (f:=oV) (l:=fU 0 ⟨0,0,0,0⟩ 0 0 0 0) (l':=fU 8 ⟨0,0,0,0⟩ 0 0 lo (-1)) (t:=157) (C:=kY 8 ⟨0,0,0,0⟩ 0 0 lo (-1)) ql (.tmp 7) (.tmp 25) ?_ ?_ Ke.heap.size ?_ ?_ ?_ hZ ?_ bF ?_);rfl;rfl;rfl;rfl;rfl;rfl;(intro W1a hr2 hG2 hz2);(refine bN.back ?_)))
 have hB2:Below Ke.heap.size Ke W1a:=((au _ _).alloc (ah _) _).grown hG2 (by simp) (fun k e=>by injection e with e;rw [← e];exact ah _);replace hS:=hS.up hB2;replace hu0:=hu0.below hB2;clear hn hZ hG2 hz2 hB2;generalize Ke.heap.size=tn at hr2 ⊢;refine bN.out ?_;have hat:=hEl.out W1a hS;go_wp2_with ((with_reducible refine aU (f:=oV) (l:=fU 8 ⟨0,0,0,0⟩ 0 0 lo (-1)) (C:=kY 8 ⟨0,0,0,0⟩ 0 0 lo (-1)) ql (.tmp 7) ?_ ?_ tn 0 ?_ hr2.at rfl ?_);rfl;rfl;rfl);refine (node8 W1a bl 2 2 ⟨0,0,0,0⟩ 0 lo d1 d2 d3 eZ dk1 eY dk2 fe dk3 D R hat (bO hS.row.2 (ah _)) (by decide) hu0 HRP.out tJ.out (HT.out.below hS.b iL.out) (bO iL.out hS.b.size)).mono ?_;rintro e Gv ⟨v,rfl,⟨u,rfl,hu1⟩,hB3⟩;replace hS:=hS.up hB3;replace hu0:=hu0.below hB3;clear hB3 hr2;obtain ⟨r1,ja,r2,iW,r3,iX,rfl⟩:=hu1.parts;obtain ⟨iD,PX⟩:∃n,Hid (R.cls.length=n):=⟨_,af rfl⟩
 obtain ⟨gF,Py⟩:∃n,Hid (R.nx.length=n):=⟨_,af rfl⟩
 obtain ⟨iF,Ow⟩:∃n,Hid (R.ac.length=n):=⟨_,af rfl⟩
 rw [PX.out,Py.out,Ow.out] at hu1 ⊢;go_upto_region 9 with (fail);have hal:Below Gv.heap.size Gv (Gv.alloc (.cells #[.slice r1 iD ja, .slice r2 gF iW, .slice r3 iF iX] 79)):=(au _ _).alloc (ah _) _;have hrw:Row oV (Gv.alloc (.cells #[.slice r1 iD ja, .slice r2 gF iW, .slice r3 iF iX] 79)) Gv.heap.size 79 (bL r1 iD ja r2 gF iW r3 iF iX):=Row.new _ _ rfl;replace hS:=hS.up hal;replace hu1:=hu1.below hal;replace hu0:=hu0.below hal;clear hal;change Code.wp _ _ _ _ (Gv.alloc (.cells #[.slice r1 iD ja, .slice r2 gF iW, .slice r3 iF iX] 79));generalize (Gv.alloc (.cells #[.slice r1 iD ja, .slice r2 gF iW, .slice r3 iF iX] 79))=aeE at hS hrw hu1 hu0 ⊢;generalize Gv.heap.size=tm at hrw ⊢;have hO:=hS.l
 go_wp2_with (first
  | ((with_reducible refine aU (f:=oV) (l:=bL r1 iD ja r2 gF iW r3 iF iX) (C:= #[.slice r1 iD ja, .slice r2 gF iW, .slice r3 iF iX]) bQ (.tmp 8) ?_ ?_ tm 0 ?_ hrw.at ?_ ?_);rfl;rfl;rfl;rfl)
  | ((with_reducible refine jA (C:= #[.slice r1 iD ja, .slice r2 gF iW, .slice r3 iF iX]) (enc:=sS) bQ pO (.tmp 39) (.tmp 38) ?_ ?_ bl 2 2 1 3 rfl ?_ (tV r1 iD ja r2 gF iW r3 iF iX) ?_ ?_ hO (by simp) ?_);rfl;rfl;rfl;rfl;rfl;(intro aeo nW jJ);(refine bN.back ?_)))
 have hnr:∀i v,aeE.cell? ⟨bl,i,none⟩=some v→vB aeE v:=fun i v hv=>by
  obtain ⟨x,hx,hv⟩:=Cq hO rfl i v hv;obtain ⟨n1,n2,n3⟩:=hu0.abJ Ie.out;simp only [nA,Bp,BJ] at hx;rcases hx with rfl | rfl
  ·rcases hv with rfl | rfl | rfl
   ·exact n1
   ·exact n2
   ·exact n3
  ·rcases hv with rfl | rfl | rfl<;>exact xO _
 have V7:=hu1.DZ tJ.out hnr jJ;have KG:=hS.store jJ nW;clear hS hrw hu1 hO hnr jJ nW hu0;have hS:Im w aeo re bl c lo [(tV d1 eZ dk1 d2 eY dk2 d3 fe dk3),(tV r1 iD ja r2 gF iW r3 iF iX)]:=KG;have hu1:=V7;clear KG V7;refine bN.out ?_;go_wp2_with fail;refine ak (n:=0) ?_
 have hat:At oV aeo bl 3 (bL r1 iD ja r2 gF iW r3 iF iX):=by
  obtain ⟨_,eK,_,hx⟩:=gG pO hS.l 1 (by simp);injection eK with eK
  injection eK with eK
  subst eK;exact hx
 have hr:=hS.r;have hb:=hS.b;have hrl:=hr.lt
 go_wp2_with (first
  | ((with_reducible refine aU (f:=oV) (l:=bL r1 iD ja r2 gF iW r3 iF iX) (C:= #[.slice r1 iD ja, .slice r2 gF iW, .slice r3 iF iX]) bQ (.tmp 45) ?_ ?_ bl 3 ?_ hat ?_ ?_);rfl;rfl;rfl;rfl)
  | ((with_reducible refine aK (f:=oV) (l:=[on,on,on]) (l':=bL r1 iD ja r2 gF iW r3 iF iX) (t:=79) (C:= #[.slice r1 iD ja, .slice r2 gF iW, .slice r3 iF iX]) bQ (.tmp 2) (.tmp 46) ?_ ?_ w.heap.size ?_ ?_ ?_ hr ?_ bF ?_);rfl;rfl;rfl;rfl;rfl;rfl;(intro WZ Fb vT XB)))
 refine fJ (v:= .tuple #[.agg #[.slice r1 iD ja, .slice r2 gF iW, .slice r3 iF iX], .int .i64 0]) (bG (f:=oV) (l:=bL r1 iD ja r2 gF iW r3 iF iX) (t:=3) rfl _ bQ w.heap.size 0 rfl Fb.at) rfl ?_;exact ⟨_,rfl,HE.out _ _ (hu1.avoid tJ.out hr vT),hb.grown vT hb.size (fun k e=>by injection e with e;omega)⟩
theorem Pn (c1 c2:List Nat) (k:Nat) (hk:k+1≤256) (z:Nat) (hz:z∈(iN c1 c2 (k+1)).cell):z<(iN c1 c2 (k+1)).bs.length:=by
 have h:=j5 c1 c2 (k+1) hk;have h1:=xN c1 c2 k;have h2:=h.cb z hz;have h3:=h.bl;generalize iN c1 c2 (k+1)=J at *;omega
theorem NH (x y:TB) (z:Nat) (hz:z∈(BK x y).cell):z<(BK x y).bs.length:=Pn x.cell y.cell 255 (by decide) z hz
theorem WX {x T:TB} (h:Fz x=some T):T.Ok:=
 have hj:=j5 x.cell x.cell 256 (ah _)
 Dv (ok:=qN) (K:=4096) ⟨by decide,by decide⟩ (by decide) (fun s _ c _=>by obtain ⟨h1,h2⟩:=Ei x s c;exact ⟨by rw [h1];decide,by rw [h2];decide⟩) (fun l h=>h.le) (by decide) hj.cl hj.le (NH x x) h
theorem aaB {x y T:TB} (hx:x.Ok) (h:QZ x y=some T):T.Ok:=
 have hj:=j5 x.cell y.cell 256 (ah _)
 Dv (ok:=fun s=>s.1<x.nx.length∧s.2.1=0) (K:=4096) ⟨by rw [(fG x jX).1];exact hx.n1,(fG x jX).2⟩ (by decide) (fun s hs c hc=>⟨by unfold vN;rw [(fG x _).1];exact hx.Uc hs.1 (ac4 c hc),by unfold vN;rw [(fG x _).2]⟩) (fun l h=>h.le) (by decide) hj.cl hj.le (NH x y) h
theorem aan {T:TB} {S:DF} (h:lim T= .ok S) (hT:T.Ok):S.V:=by
 unfold lim at h;split at h
 ·injection h with h
  subst h;exact hT.NY ‹_›
 ·cases h
theorem adF {A S:DF} (h:A.star= .ok S):S.V:=by
 unfold DF.star at h;cases hT:Fz (lN A) with
 | none=>rw [hT] at h;cases h
 | some T=>rw [hT] at h;exact aan h (WX hT)
theorem Ko {A B S:DF} (hA:A.V) (h:A.cat B= .ok S):S.V:=by
 unfold DF.cat at h;cases hT:QZ (lN A) (lN B) with
 | none=>rw [hT] at h;cases h
 | some T=>rw [hT] at h;exact aan h (aaB (BX hA).1 hT)
def nZ (c:Cl):DF:=(bT (dm c)).canon
theorem VE {c:Cl} (hc:c.Let) (h:(nZ c).nx.length≤64):(nZ c).V:=(jO hc.v.toOk).NY h
theorem zh (h:eU.canon.nx.length≤64):eU.canon.V:=zM.NY h
theorem Um {c:Cl} {lo:Int} {P S R:DF} (hc:c.Let) (hn:(nZ c).nx.length≤64) (Qt:P6 (nZ c) lo P) (hP:P.V) (hS:(nZ c).star= .ok S) (hR:P.cat S= .ok R) (hlo:((-1:Int)==lo)=false):KX (nZ c) lo R:=
 fun w vd hd hT hl=>agG w vd (nZ c) P S R lo hd (VE hc hn) Qt hP hS (adF hS) hR (Ko hP hR).toOk hlo hT hl
def yT (c:Cl) (one:Bool):Bool:=
 decide ((nZ c).nx.length≤64) && match (nZ c).star with
  | .ok S=>(match (if one then eU.canon.cat (nZ c) else .ok eU.canon) with
   | .ok P=>(match P.cat S with | .ok _=>true | .error _=>false)
   | .error _=>false)
  | .error _=>false
theorem ZE {c:Cl} {one:Bool} (hw:eU.canon.nx.length≤64) (hc:c.Let) (h:yT c one=true):∃R,KX (nZ c) (if one then 1 else 0) R∧R.Ok:=by
 unfold yT at h;rw [cZ,tT] at h;obtain ⟨hn,h⟩:=h;cases hS:(nZ c).star with
 | error e=>rw [hS] at h;cases h
 | ok S=>
  rw [hS] at h;simp only at h;cases one with
  | false=>
   simp only [ME,qV] at h ⊢;cases hR:eU.canon.cat S with
   | error e=>rw [hR] at h;cases h
   | ok R=>exact ⟨R,Um hc hn (VT _) (zh hw) hS hR (by decide),(Ko (zh hw) hR).toOk⟩
  | true=>
   simp only [wT] at h ⊢;cases hP:eU.canon.cat (nZ c) with
   | error e=>rw [hP] at h;cases h
   | ok P=>
    rw [hP] at h;simp only at h;have hPV:=Ko (zh hw) hP;cases hR:P.cat S with
    | error e=>rw [hR] at h;cases h
    | ok R=>exact ⟨R,Um hc hn (ady _ _ (VE hc hn) (zh hw) hP hPV.toOk) hPV hS hR (by decide),(Ko hPV hR).toOk⟩
theorem Gi {c:Cl} {lo:Int} {R:DF} (w:World) (re cap:Nat) (h0:At oV w re 0 (fU 3 c 0 0 0 0)) (h1:At oV w re 9 (fU 8 ⟨0,0,0,0⟩ 0 0 lo (-1))) (hre:re<w.heap.size) (hc:c.Let) (hrep:KX (nZ c) lo R) (Eu:R.Ok)
  (hval:∀W,Below w.heap.size w W→Calls Tryz.prog 98 #[.slice (some ⟨re,0,none⟩) 2 cap] W fun e w'=>e= .returned (.int .i64 0)∧Below W.heap.size W w') (hT:iw w) (htl:1<w.heap.size):
  Calls Tryz.prog 62 #[.slice (some ⟨re,0,none⟩) 2 cap] w fun e w'=>∃v,e= .returned v∧fQ w' v (.ok R)∧Below w.heap.size w w':=acW w re cap c lo R h0 h1 hre hc hrep Eu hval hT htl
def Ae:Cl:=⟨0,8589934592,0,0⟩
def GH:Cl:=⟨0,17179869184,0,0⟩
def xK:Cl:=⟨0,25769803776,0,0⟩
theorem N8 {c:Cl} (h1:c.size≠0) (h2:c≠⟨0,0,0,0⟩) (h3:c.non≠⟨0,0,0,0⟩) (h4:c.non.least<c.least) (hi:c.non.inter c=bS) (hu:(kX (dm c).cls (dm c).cls.length).non=bS) (h0:(kX (dm c).cls 0).inter c.non=bS) (h1':(kX (dm c).cls 1).inter c=bS)
  (hn:∃n:UInt8,c.non.least=(n.toNat:Int)∧c.has n=false) (hy:∃n:UInt8,c.least=(n.toNat:Int)∧c.has n=true):c.Let where
 size:=h1
 h0:=h2
 h1:=h3
 lt:=h4
 no:=hn
 yes:=hy
 v:={
  c1:=by simp [dm]
  mF:=by simp [dm]
  n1:=by simp [dm]
  nn:=by simp [dm]
  ac:=rfl
  rw:=by intro r hr;simp only [dm,nA,Bp,BJ] at hr;rcases hr with rfl | rfl | rfl<;>rfl
  rb:=by intro r hr t ht;simp only [dm,nA,Bp,BJ] at hr;rcases hr with rfl | rfl | rfl<;>(simp only [nA,Bp,BJ] at ht;rcases ht with rfl | rfl<;>simp [dm])
  n64:=by simp [dm]
  ne:=by intro x hx;simp only [dm,nA,Bp,BJ] at hx;rcases hx with rfl | rfl;exact h3;exact h2
  dj:=by
   intro k hk
   match k,hk with
   | 0,_=>exact h0
   | 1,_=>exact h1'
  un:=hu}
theorem abw:Ae.Let:=N8 (by decide+kernel) (by decide+kernel) (by decide+kernel) (by decide+kernel) (by decide+kernel) (by decide+kernel) (by decide+kernel) (by decide+kernel) ⟨0,by decide+kernel,by decide+kernel⟩ ⟨97,by decide+kernel,by decide+kernel⟩
theorem afv:GH.Let:=N8 (by decide+kernel) (by decide+kernel) (by decide+kernel) (by decide+kernel) (by decide+kernel) (by decide+kernel) (by decide+kernel) (by decide+kernel) ⟨0,by decide+kernel,by decide+kernel⟩ ⟨98,by decide+kernel,by decide+kernel⟩
theorem acZ:xK.Let:=N8 (by decide+kernel) (by decide+kernel) (by decide+kernel) (by decide+kernel) (by decide+kernel) (by decide+kernel) (by decide+kernel) (by decide+kernel) ⟨0,by decide+kernel,by decide+kernel⟩ ⟨97,by decide+kernel,by decide+kernel⟩
theorem Ox (w:World):Calls Tryz.prog 133 #[.int .i64 3] w fun e w'=>e= .returned (.int .i64 0)∧w'=w:=by
 go_enter Tryz.func133,Tryz.ntmps133;go_wp2_with fail;go_ret;exact ⟨rfl,rfl⟩
theorem OL (w:World):Calls Tryz.prog 133 #[.int .i64 8] w fun e w'=>e= .returned (.int .i64 1)∧w'=w:=by
 go_enter Tryz.func133,Tryz.ntmps133;go_wp2_with fail;go_ret;exact ⟨rfl,rfl⟩
theorem aaW (w:World) (b:Nat) (hi:w.cell? ⟨b,0,none⟩=some (.int .i64 1)):Calls Tryz.prog 174 #[.int .i64 0, .pointer (some ⟨b,0,none⟩)] w fun e w'=>e= .returned (.bool true)∧w'=w:=by
 go_enter Tryz.func174,Tryz.ntmps174;go_wp2_with fail;go_ret;exact ⟨rfl,rfl⟩
theorem adg (w:World) (c:Cl) (i:Int):Calls Tryz.prog 132 #[.agg (kY 3 c 0 0 0 0), .int .i64 i] w fun e w'=>e= .returned (.int .i64 0)∧Below w.heap.size w w':=by
 have s1:(w.alloc (.cells (kY 3 c 0 0 0 0) 157)).heap.size=w.heap.size+1:=bR _ _
 obtain ⟨W,hW,hB,r1,hi⟩:∃W,((w.alloc (.cells (kY 3 c 0 0 0 0) 157)).alloc (.cells #[.int .i64 i] 3))=W∧Below w.heap.size w W∧Row oV W w.heap.size 157 (fU 3 c 0 0 0 0)∧W.cell? ⟨w.heap.size+1,0,none⟩=some (.int .i64 i):=by
  have r1:Row oV (w.alloc (.cells (kY 3 c 0 0 0 0) 157)) w.heap.size 157 (fU 3 c 0 0 0 0):=Row.new _ _ rfl;have r2:=Row.new (f:=oV) (w.alloc (.cells (kY 3 c 0 0 0 0) 157)) (t:=3) (l:=[oi i]) (.cells #[.int .i64 i] 3) rfl;rw [s1] at r2;exact ⟨_,rfl,((au _ _).alloc (ah _) _).alloc (by rw [s1];omega) _,r1.alloc _,by rw [r2.cell?];rfl⟩
 clear s1;have c0:W.cell? ⟨w.heap.size,0,none⟩=some (.int .i64 3):=by rw [r1.cell?];rfl
 have c5:W.cell? ⟨w.heap.size,5,none⟩=some (.int .i64 0):=by rw [r1.cell?];rfl
 have c6:W.cell? ⟨w.heap.size,6,none⟩=some (.int .i64 0):=by rw [r1.cell?];rfl
 have c7:W.cell? ⟨w.heap.size,7,none⟩=some (.int .i64 0):=by rw [r1.cell?];rfl
 have c8:W.cell? ⟨w.heap.size,8,none⟩=some (.int .i64 0):=by rw [r1.cell?];rfl
 have hcl:=Pf r1;go_enter Tryz.func132,Tryz.ntmps132;go_upto_region 1 with (fail);clear hW;go_wp2_with fail;refine (Ox W).mono ?_;rintro e W ⟨rfl,rfl⟩;go_wp2_with fail;go_ret;exact ⟨rfl,hB⟩
theorem adu (w:World):Calls Tryz.prog 132 #[.agg (kY 8 ⟨0,0,0,0⟩ 0 0 0 (-1)), .int .i64 1] w fun e w'=>e= .returned (.int .i64 0)∧Below w.heap.size w w':=by
 have s1:(w.alloc (.cells (kY 8 ⟨0,0,0,0⟩ 0 0 0 (-1)) 157)).heap.size=w.heap.size+1:=bR _ _
 obtain ⟨W,hW,hB,r1,hi⟩:∃W,((w.alloc (.cells (kY 8 ⟨0,0,0,0⟩ 0 0 0 (-1)) 157)).alloc (.cells #[.int .i64 1] 3))=W∧Below w.heap.size w W∧Row oV W w.heap.size 157 (fU 8 ⟨0,0,0,0⟩ 0 0 0 (-1))∧W.cell? ⟨w.heap.size+1,0,none⟩=some (.int .i64 1):=by
  have r1:Row oV (w.alloc (.cells (kY 8 ⟨0,0,0,0⟩ 0 0 0 (-1)) 157)) w.heap.size 157 (fU 8 ⟨0,0,0,0⟩ 0 0 0 (-1)):=Row.new _ _ rfl;have r2:=Row.new (f:=oV) (w.alloc (.cells (kY 8 ⟨0,0,0,0⟩ 0 0 0 (-1)) 157)) (t:=3) (l:=[oi 1]) (.cells #[.int .i64 1] 3) rfl;rw [s1] at r2;exact ⟨_,rfl,((au _ _).alloc (ah _) _).alloc (by rw [s1];omega) _,r1.alloc _,by rw [r2.cell?];rfl⟩
 clear s1;have c0:W.cell? ⟨w.heap.size,0,none⟩=some (.int .i64 8):=by rw [r1.cell?];rfl
 have c5:W.cell? ⟨w.heap.size,5,none⟩=some (.int .i64 0):=by rw [r1.cell?];rfl
 have c6:W.cell? ⟨w.heap.size,6,none⟩=some (.int .i64 0):=by rw [r1.cell?];rfl
 have c7:W.cell? ⟨w.heap.size,7,none⟩=some (.int .i64 0):=by rw [r1.cell?];rfl
 have c8:W.cell? ⟨w.heap.size,8,none⟩=some (.int .i64 (-1)):=by rw [r1.cell?];rfl
 have hcl:=Pf r1;go_enter Tryz.func132,Tryz.ntmps132;go_upto_region 1 with (fail);clear hW;go_wp2_with fail;refine (OL W).mono ?_;rintro e W ⟨rfl,rfl⟩;go_wp2_with fail;refine (aaW W (w.heap.size+1) hi).mono ?_;rintro e W ⟨rfl,rfl⟩
 go_wp2_with (first
  | ((with_reducible refine uw (f:=oV) (l:=aJ ⟨0,0,0,0⟩) (C:=ax ⟨0,0,0,0⟩) ay (.tmp 57) ?_ ?_ w.heap.size 1 ?_ hcl rfl ?_);rfl;rfl;rfl)
  | ((with_reducible refine Xc (u:= .bool false) (.binOp .neq 65 (.tmp 58) (.tmp 59) 65) ?_ ?_ ?_ ?_);rfl;rfl;(first | rfl | kernel_rfl)))
 go_ret;exact ⟨rfl,hB⟩
structure PK (w W:World) (re pr:Nat) (c:Cl) (ps:List Nat):Prop where
 b:Below w.heap.size w W
 n0:At oV W re 0 (fU 3 c 0 0 0 0)
 n1:At oV W re 9 (fU 8 ⟨0,0,0,0⟩ 0 0 0 (-1))
 p:Row nV W pr 3 ps
 re:re<w.heap.size
 pr:w.heap.size≤pr
theorem PK.up {w W X:World} {re pr:Nat} {c:Cl} {ps:List Nat} (h:PK w W re pr c ps) (hB:Below W.heap.size W X):PK w X re pr c ps:=
 have hre:=bO h.re h.b.size
 ⟨h.b.trans (hB.mono h.b.size),h.n0.below hB hre,h.n1.below hB hre,h.p.below hB h.p.lt,h.re,h.pr⟩
theorem PK.set {w W:World} {re pr:Nat} {c:Cl} {ps:List Nat} (h:PK w W re pr c ps) (k v:Nat):PK w (W.setCell ⟨pr,k,none⟩ (.int .i64 (v:Int))) re pr c (ps.set k v):=by
 have hg:=aI W pr k (.int .i64 (v:Int));have hre:=h.re;have hpr:=h.pr;have hb:=h.b.size;exact ⟨h.b.grown hg hb (fun k e=>by injection e with e;omega),h.n0.grown hg (by omega) (fun e=>by injection e with e;omega),h.n1.grown hg (by omega) (fun e=>by injection e with e;omega),h.p.set k v,h.re,h.pr⟩
theorem DL (w:World) (re cap:Nat) (c:Cl) (h0:At oV w re 0 (fU 3 c 0 0 0 0)) (h1:At oV w re 9 (fU 8 ⟨0,0,0,0⟩ 0 0 0 (-1))) (hre:re<w.heap.size):
  Calls Tryz.prog 98 #[.slice (some ⟨re,0,none⟩) 2 cap] w fun e w'=>e= .returned (.int .i64 0)∧Below w.heap.size w w':=by
 have hmk:=tZ w 2 (by omega);have hal:Below w.heap.size w (w.alloc (.cells ((List.replicate 2 0).map nV).toArray 3)):=(au _ _).alloc (ah _) _;have hS:PK w (w.alloc (.cells ((List.replicate 2 0).map nV).toArray 3)) re w.heap.size c [0,0]:=⟨hal,h0.below hal hre,h1.below hal hre,Row.new _ _ rfl,hre,ah _⟩
 clear hal h0 h1 hre;obtain ⟨MB,nM⟩:∃C,Hid (C=((List.replicate 2 0).map nV).toArray):=⟨_,af rfl⟩
 rw [← nM.out] at hmk hS;replace hmk:(Instr.makeSlice 92 (.int .i64 2) (.int .i64 2)).run Tryz.prog w= .ok (.slice (some ⟨w.heap.size,0,none⟩) 2 2) (w.alloc (.cells MB 3)):=hmk;go_enter Tryz.func98,Tryz.ntmps98;go_upto_region 6 with (fail);clear hmk;generalize (w.alloc (.cells MB 3))=W2 at hS ⊢;obtain ⟨pr,Hpr⟩:∃n,Hid (w.heap.size=n):=⟨_,af rfl⟩
 have hS:PK w W2 re pr c [0,0]:=Hpr.out▸hS;rw [Hpr.out];go_wp2_with fail;refine uT 3 ?_;refine ak (n:=2) ?_;have hn:=hS.n0;have hZ:Row oV (W2.alloc (.cells #[.int .i64 0, .int .u64 0, .int .u64 0, .int .u64 0, .int .u64 0, .int .i64 0, .int .i64 0, .int .i64 0, .int .i64 0] 157)) W2.heap.size 157 (fU 0 ⟨0,0,0,0⟩ 0 0 0 0):=Row.new _ _ rfl
 go_wp2_with (first
  | ((with_reducible refine zL hn ql rfl (C:=kY 3 c 0 0 0 0) ?_))
  | ((with_reducible refine zS (l':=fU 3 c 0 0 0 0) hZ ql ?_);(intro V0 hr2 hG2 hz2);(refine bN.back ?_)))
 have hB2:Below W2.heap.size W2 V0:=((au _ _).alloc (ah _) _).grown hG2 (by simp) (fun k e=>by injection e with e;rw [← e];exact ah _);have hpt:=hS.p.lt;replace hS:=hS.up hB2;clear hn hZ hG2 hz2 hB2;obtain ⟨tn0,Htn⟩:∃n,Hid (W2.heap.size=n):=⟨_,af rfl⟩
 rw [Htn.out] at hr2 hpt ⊢;clear Htn;refine bN.out ?_;go_wp2_with ((with_reducible refine zL hr2.at ql rfl (C:=kY 3 c 0 0 0 0) ?_));refine (adg V0 c 0).mono ?_;rintro e Hf ⟨rfl,hB3⟩;replace hS:=hS.up hB3;replace hr2:=hr2.below hB3 hr2.lt;clear hB3;have k0:Hf.cell? ⟨tn0,0,none⟩=some (.int .i64 3):=by rw [hr2.cell?];rfl
 have k5:Hf.cell? ⟨tn0,5,none⟩=some (.int .i64 0):=by rw [hr2.cell?];rfl
 go_wp2_with fail;refine (Ox Hf).mono ?_;rintro e V0c ⟨rfl,e2⟩;subst e2;go_wp2_with fail;refine (Ox _).mono ?_;rintro e Fw ⟨rfl,e2⟩;subst e2;clear k0 k5 hr2 hpt;go_wp2_with fail;refine ak (n:=1) ?_;have hn:=hS.n1;have hZ:Row oV (Fw.alloc (.cells #[.int .i64 0, .int .u64 0, .int .u64 0, .int .u64 0, .int .u64 0, .int .i64 0, .int .i64 0, .int .i64 0, .int .i64 0] 157)) Fw.heap.size 157 (fU 0 ⟨0,0,0,0⟩ 0 0 0 0):=Row.new _ _ rfl
 go_wp2_with (first
  | ((with_reducible refine zL hn ql rfl (C:=kY 8 ⟨0,0,0,0⟩ 0 0 0 (-1)) ?_))
  | ((with_reducible refine zS (l':=fU 8 ⟨0,0,0,0⟩ 0 0 0 (-1)) hZ ql ?_);(intro V1 hr2 hG2 hz2);(refine bN.back ?_)))
 have hB2:Below Fw.heap.size Fw V1:=((au _ _).alloc (ah _) _).grown hG2 (by simp) (fun k e=>by injection e with e;rw [← e];exact ah _);have hpt:=hS.p.lt;replace hS:=hS.up hB2;clear hn hZ hG2 hz2 hB2;obtain ⟨tn1,Htn⟩:∃n,Hid (Fw.heap.size=n):=⟨_,af rfl⟩
 rw [Htn.out] at hr2 hpt ⊢;clear Htn;refine bN.out ?_;go_wp2_with ((with_reducible refine zL hr2.at ql rfl (C:=kY 8 ⟨0,0,0,0⟩ 0 0 0 (-1)) ?_));refine (adu V1).mono ?_;rintro e Ih ⟨rfl,hB3⟩;replace hS:=hS.up hB3;replace hr2:=hr2.below hB3 hr2.lt;clear hB3;have k0:Ih.cell? ⟨tn1,0,none⟩=some (.int .i64 8):=by rw [hr2.cell?];rfl
 have k5:Ih.cell? ⟨tn1,5,none⟩=some (.int .i64 0):=by rw [hr2.cell?];rfl
 go_wp2_with fail;refine (OL Ih).mono ?_;rintro e YP ⟨rfl,e2⟩;subst e2;have q0:=fu hS.p 0 (by decide);have qf:=hS.p.frozen 0;go_upto_region 14 with (fail);have vK:PK w (YP.setCell ⟨pr,0,none⟩ (.int .i64 1)) re pr c [1,0]:=hS.set 0 1;have hr4:=hr2.grown (aI YP pr 0 (.int .i64 1)) (fun e=>by injection e with e;omega);generalize (YP.setCell ⟨pr,0,none⟩ (.int .i64 1))=X4 at vK hr4 ⊢;clear q0 qf k0 k5 hS hr2;have k0:X4.cell? ⟨tn1,0,none⟩=some (.int .i64 8):=by rw [hr4.cell?];rfl
 have q0:X4.cell? ⟨pr,0,none⟩=some (.int .i64 1):=by rw [vK.p.cell?];rfl
 go_wp2_with fail;refine (OL _).mono ?_;rintro e X5 ⟨rfl,e2⟩;subst e2;go_wp2_with fail;refine ak (n:=0) ?_;go_wp2_with fail;refine uT 2 ?_;refine ak (n:=1) ?_;go_wp2_with fail;refine ak (n:=0) ?_;go_wp2_with fail;go_ret;exact ⟨rfl,vK.b⟩
end Go.Proofs.YtncnfncglacheaaGreatDoor
