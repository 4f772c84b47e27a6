/- Part of a proof. -/
import Derived.Test.YtncnfncglacheaaGreatDoorMJoint
import Derived.Test.YtncnfncglacheaaGreatDoorMClSort
set_option linter.all false
set_option maxRecDepth 100000
set_option maxHeartbeats 64000000
namespace Go.Proofs.YtncnfncglacheaaGreatDoor
open Go Go.RowKit Mem
def fI (k:Int) (c:Cl) (x y lo hi:Int):List OC:=[oi k,ow (X c.a),ow (X c.b),ow (X c.c),ow (X c.d),oi x,oi y,oi lo,oi hi]
def lq (k:Int) (c:Cl) (x y lo hi:Int):Array Value:=((fI k c x y lo hi).map oV).toArray
theorem pW:bR Tryz.prog 157 9:=⟨fun _=>by kernel_rfl,fun _=>by kernel_rfl⟩
theorem NK {w:World} {b:Nat} {t:TypeId} {k:Int} {c:Cl} {x y lo hi:Int} (h:Row oV w b t (fI k c x y lo hi)):At oV w b 1 (aG c):=fun j hj=>by
 rw [h.cell?]
 match j,hj with
 | 0,_=>rfl
 | 1,_=>rfl
 | 2,_=>rfl
 | 3,_=>rfl
def RnS (w W:World) (l:List OC):Prop:=Below w.heap.size w W∧Row oV W w.heap.size 157 l∧Row oV W (w.heap.size+1) 79 [on,on,on]∧w.heap.size+2≤W.heap.size
theorem RnS.up {w W X:World} {l:List OC} (h:RnS w W l) (hB:Below W.heap.size W X):RnS w X l:=
 ⟨h.1.trans (hB.mono h.1.size),h.2.1.below hB h.2.1.lt,h.2.2.1.below hB h.2.2.1.lt,aJ h.2.2.2 hB.size⟩
theorem node3 (w:World) (vl:Value) (c:Cl) (x y lo hi:Int) (hc:c.Let) (hT:gV w) (htl:1<w.heap.size):
  Calls Tryz.prog 99 #[.agg (lq 3 c x y lo hi),vl] w fun e w'=>∃v,e= .returned v∧fF w' v (.ok (bP (bZ c)).canon)∧Below w.heap.size w w':=by
 have HC:=Lib.hid hc;have HT:=Lib.hid hT;have iy:=Lib.hid htl;have yK:=Lib.hid (jD hc.v.toOk);have HL:=Lib.hid fun W hW hWl=>Ya W c hc hW hWl;obtain ⟨R,HRR⟩:∃D,Hid ((bP (bZ c)).canon=D):=⟨_,Lib.hid rfl⟩
 have sV:Hid R.Ok:=Lib.hid (HRR.out▸yK.out.canon.1);rw [HRR.out] at HL ⊢;have HE:Hid (∀(w':World) u,dm w' u R→fF w' (.tuple #[u, .int .i64 0]) (.ok R)):=Lib.hid (fun w' u h=>⟨u,rfl,h⟩);clear hc hT htl
 obtain ⟨W,hW,hS⟩:∃W,((w.alloc (.cells (lq 3 c x y lo hi) 157)).alloc (.cells #[.slice none 0 0, .slice none 0 0, .slice none 0 0] 79))=W∧RnS w W (fI 3 c x y lo hi):=by
  have s1:(w.alloc (.cells (lq 3 c x y lo hi) 157)).heap.size=w.heap.size+1:=bO _ _;have r1:Row oV (w.alloc (.cells (lq 3 c x y lo hi) 157)) w.heap.size 157 (fI 3 c x y lo hi):=Row.new _ _ rfl;have r2:=Row.new (f:=oV) (w.alloc (.cells (lq 3 c x y lo hi) 157)) (t:=79) (l:=[on,on,on]) (.cells #[.slice none 0 0, .slice none 0 0, .slice none 0 0] 79) rfl;rw [s1] at r2;exact ⟨_,rfl,((ak _ _).alloc (af _) _).alloc (by rw [s1];omega) _,r1.alloc _,r2,by rw [bO,s1];omega⟩
 go_enter Tryz.func99,Tryz.ntmps99;go_upto_region 1 with (fail);have hk:W.cell? ⟨w.heap.size,0,none⟩=some (.int .i64 3):=by rw [hS.2.1.cell?];rfl
 have hcl:=NK hS.2.1
 first | rw [hW] | skip
 clear hW;go_wp2_with ((with_reducible refine zL hcl ay rfl (C:=au c) ?_));refine (HL.out W (HT.out.below hS.1 iy.out) (bJ iy.out hS.1.size)).mono ?_;rintro e W7 ⟨v,rfl,⟨u,rfl,hr⟩,fD⟩;replace hS:=hS.up fD;clear fD hk hcl;obtain ⟨r1,iN,r2,iM,r3,iK,rfl⟩:=hr.parts;obtain ⟨ig,Nh⟩:∃n,Hid (R.cls.length=n):=⟨_,Lib.hid rfl⟩
 obtain ⟨gu,Od⟩:∃n,Hid (R.nx.length=n):=⟨_,Lib.hid rfl⟩
 obtain ⟨gX,OD⟩:∃n,Hid (R.ac.length=n):=⟨_,Lib.hid rfl⟩
 rw [Nh.out,Od.out,OD.out] at hr ⊢;have xE:=hS.2.2.1;go_wp2_with ((with_reducible refine zS (l':=bF r1 ig iN r2 gu iM r3 gX iK) xE bN ?_);(intro WZ EC vZ Xh));refine bodyPost_ret (v:= .tuple #[.agg #[.slice r1 ig iN, .slice r2 gu iM, .slice r3 gX iK], .int .i64 0]) (bD (f:=oV) (l:=bF r1 ig iN r2 gu iM r3 gX iK) (t:=5) rfl _ bN (w.heap.size+1) 0 rfl EC.at) rfl ?_;exact ⟨_,rfl,HE.out _ _ (hr.avoid sV.out xE vZ),hS.1.grown vZ hS.1.size (fun k e=>by injection e with e;omega)⟩
def Ja (D:DF) (low:Int) (R:DF):Prop:=∀(w:World) (vd:Value),dm w vd D→gV w→1<w.heap.size→
  Calls Tryz.prog 141 #[vd, .int .i64 low, .int .i64 (-1)] w fun e w'=>∃v,e= .returned v∧fF w' v (.ok R)∧Below w.heap.size w w'
theorem node8 (w:World) (bl n cap:Nat) (c:Cl) (y lo:Int) (d1 d2 d3:Option Addr) (eT dk1 eP dk2 eO dk3:Nat) (D R:DF) (hl:At oV w bl 0 (bF d1 eT dk1 d2 eP dk2 d3 eO dk3)) (hbl:bl<w.heap.size) (hn:0<n) (hd:dm w (.agg #[.slice d1 eT dk1, .slice d2 eP dk2, .slice d3 eO dk3]) D) (hrep:Ja D lo R) (EH:R.Ok) (hT:gV w) (htl:1<w.heap.size):
  Calls Tryz.prog 99 #[.agg (lq 8 c 0 y lo (-1)), .slice (some ⟨bl,0,none⟩) n cap] w fun e w'=>∃v,e= .returned v∧fF w' v (.ok R)∧Below w.heap.size w w':=by
 have HT:=Lib.hid hT;have iy:=Lib.hid htl;have HD:=Lib.hid hd;have HA:=Lib.hid hl;have sV:=Lib.hid EH;have HRP:=Lib.hid hrep;have HE:Hid (∀(w':World) u,dm w' u R→fF w' (.tuple #[u, .int .i64 0]) (.ok R)):=Lib.hid (fun w' u h=>⟨u,rfl,h⟩);clear hl hd hrep EH hT htl
 obtain ⟨W,hW,hS⟩:∃W,((w.alloc (.cells (lq 8 c 0 y lo (-1)) 157)).alloc (.cells #[.slice none 0 0, .slice none 0 0, .slice none 0 0] 79))=W∧RnS w W (fI 8 c 0 y lo (-1)):=by
  have s1:(w.alloc (.cells (lq 8 c 0 y lo (-1)) 157)).heap.size=w.heap.size+1:=bO _ _;have r1:Row oV (w.alloc (.cells (lq 8 c 0 y lo (-1)) 157)) w.heap.size 157 (fI 8 c 0 y lo (-1)):=Row.new _ _ rfl;have r2:=Row.new (f:=oV) (w.alloc (.cells (lq 8 c 0 y lo (-1)) 157)) (t:=79) (l:=[on,on,on]) (.cells #[.slice none 0 0, .slice none 0 0, .slice none 0 0] 79) rfl;rw [s1] at r2;exact ⟨_,rfl,((ak _ _).alloc (af _) _).alloc (by rw [s1];omega) _,r1.alloc _,r2,by rw [bO,s1];omega⟩
 go_enter Tryz.func99,Tryz.ntmps99;go_upto_region 1 with (fail);have hk:W.cell? ⟨w.heap.size,0,none⟩=some (.int .i64 8):=by rw [hS.2.1.cell?];rfl
 first | rw [hW] | skip
 clear hW;go_upto_region 16 with (fail);clear hk;have hn2:(0:Int)<n:=by omega
 have hR:=hS;clear hS;have hc5:∀X,Below W.heap.size W X→X.cell? ⟨w.heap.size,5,none⟩=some (.int .i64 0):=fun X h=>by rw [(hR.up h).2.1.cell?];rfl
 have hc7:∀X,Below W.heap.size W X→X.cell? ⟨w.heap.size,7,none⟩=some (.int .i64 lo):=fun X h=>by rw [(hR.up h).2.1.cell?];rfl
 have hc8:∀X,Below W.heap.size W X→X.cell? ⟨w.heap.size,8,none⟩=some (.int .i64 (-1)):=fun X h=>by rw [(hR.up h).2.1.cell?];rfl
 refine aC (S:=fun Y=>Below W.heap.size W Y) 12 rfl (by kernel_rfl) (ak _ _).drew fun hS=> ?_;refine tk 0 80 (.slice (some ⟨bl,0,none⟩) n cap) hS ?_;refine tk 1 81 (.pointer (some ⟨w.heap.size,5,none⟩)) hS ?_;refine tk 2 82 (.int .i64 0) hS ?_ rfl (qi fun W' h=>by have q:=hc5 W' h;go_simp);refine tk 3 83 (.pointer (some ⟨bl,0,none⟩)) hS ?_ rfl yg;refine tk 4 84 (.agg #[.slice d1 eT dk1, .slice d2 eP dk2, .slice d3 eO dk3]) hS ?_ rfl (aA (f:=oV) (l:=bF d1 eT dk1 d2 eP dk2 d3 eO dk3) bN (.tmp 83) rfl bl 0 rfl (fun W' h=>(HA.out.below hR.1 hbl).below h (bJ hbl hR.1.size)) rfl rfl);refine tk 5 85 (.pointer (some ⟨w.heap.size,7,none⟩)) hS ?_;refine tk 6 86 (.int .i64 lo) hS ?_ rfl (qi fun W' h=>by have q:=hc7 W' h;go_simp);refine tk 7 87 (.pointer (some ⟨w.heap.size,8,none⟩)) hS ?_;refine tk 8 88 (.int .i64 (-1)) hS ?_ rfl (qi fun W' h=>by have q:=hc8 W' h;go_simp);refine iT 9 (fun K' hK=> ?_);refine cD 89 141 #[.agg #[.slice d1 eT dk1, .slice d2 eP dk2, .slice d3 eO dk3], .int .i64 lo, .int .i64 (-1)] ?_;have hw:=(hR.up hS).1;refine (HRP.out W.drew _ (HD.out.below hw) (HT.out.below hw iy.out) (bJ iy.out hw.size)).mono ?_;rintro e W7 ⟨v,rfl,⟨u,rfl,hr⟩,fD⟩;obtain ⟨r1,iN,r2,iM,r3,iK,rfl⟩:=hr.parts;obtain ⟨ig,Nh⟩:∃n,Hid (R.cls.length=n):=⟨_,Lib.hid rfl⟩
 obtain ⟨gu,Od⟩:∃n,Hid (R.nx.length=n):=⟨_,Lib.hid rfl⟩
 obtain ⟨gX,OD⟩:∃n,Hid (R.ac.length=n):=⟨_,Lib.hid rfl⟩
 rw [Nh.out,Od.out,OD.out] at hr ⊢;have jg:=hS.trans (fD.mono hS.size);refine ⟨_,rfl,hK.out _ _ jg fun _=> ?_⟩;clear hK fD hS hw;have hS:=jg;simp only [sA,sB,sC];refine tk 10 90 (.agg #[.slice r1 ig iN, .slice r2 gu iM, .slice r3 gX iK]) hS ?_;refine tk 11 91 (.int .i64 0) hS ?_;refine aL (by kernel_rfl) ?_;simp only [List.drop];have xE:=(hR.up jg).2.2.1;have fD:=(hR.up jg).1;go_wp2_with ((with_reducible refine zS (l':=bF r1 ig iN r2 gu iM r3 gX iK) xE bN ?_);(intro WZ EC vZ Xh));refine bodyPost_ret (v:= .tuple #[.agg #[.slice r1 ig iN, .slice r2 gu iM, .slice r3 gX iK], .int .i64 0]) (bD (f:=oV) (l:=bF r1 ig iN r2 gu iM r3 gX iK) (t:=5) rfl _ bN (w.heap.size+1) 0 rfl EC.at) rfl ?_;exact ⟨_,rfl,HE.out _ _ (hr.avoid sV.out xE vZ),fD.grown vZ fD.size (fun k e=>by injection e with e;omega)⟩
def uU (w:World) (v:Value):Prop:=(∃p n k,v= .slice p n k)∧∀l:List Nat,0<l.length→¬Rd nV w v l
theorem xk (w:World):uU w (.slice none 0 0):=⟨⟨_,_,_,rfl⟩,fun l h h2=>by
 obtain ⟨_,_,_,e,_⟩:=nR h2 h
 cases e⟩
theorem dm.aav {w:World} {P:DF} {p1 p2 p3:Option Addr} {n1 k1 n2 k2 n3 k3:Nat} (hp:dm w (.agg #[.slice p1 n1 k1, .slice p2 n2 k2, .slice p3 n3 k3]) P) (hP:P.Ok):uU w (.slice p1 n1 k1)∧uU w (.slice p2 n2 k2)∧uU w (.slice p3 n3 k3):=by
 obtain ⟨wc,wn,wa,ew,q1,q2,q3⟩:=hp;injection ew with ew
 simp only [SC,GK,and_true] at ew;obtain ⟨rfl,rfl,rfl⟩:=ew;have hpc:=hP.c1;have hpn:=hP.n1;have hpa:=hP.ac;refine ⟨⟨⟨_,_,_,rfl⟩,fun l h0 e2=> ?_⟩,⟨⟨_,_,_,rfl⟩,fun l h0 e2=> ?_⟩,⟨⟨_,_,_,rfl⟩,fun l h0 e2=> ?_⟩⟩
 ·obtain ⟨bb,oo,x,rfl,hx⟩:=nR e2 h0;rcases q1 with ⟨_,_,e⟩ | ⟨b2,o2,c2,e,_,ha2,_⟩
  ·rw [e] at hpc;exact absurd hpc (by simp)
  ·injection e with e
   injection e with e
   injection e with ea eb
   subst ea eb;have:=ha2 0 (by omega) 0 (by show 0<4;omega);simp only [TT,yh] at this;rw [hx] at this;cases this
 ·obtain ⟨bb,oo,x,rfl,hx⟩:=nR e2 h0;rcases q2 with ⟨_,_,e⟩ | ⟨b2,o2,c2,e,_,ha2,_⟩
  ·rw [e] at hpn;exact absurd hpn (by simp)
  ·injection e with e
   injection e with e
   injection e with ea eb
   subst ea eb;obtain ⟨u,hu1,hu2⟩:=ha2 0 (by omega);simp only [yh] at hu1;rw [hx] at hu1;injection hu1 with hu1
   subst hu1;rcases hu2 with ⟨_,e,_⟩ | ⟨_,_,_,e,_⟩<;>cases e
 ·obtain ⟨bb,oo,x,rfl,hx⟩:=nR e2 h0;rcases q3 with ⟨_,_,e⟩ | ⟨b2,o2,c2,e,_,ha2,_⟩
  ·rw [e] at hpa;simp at hpa;omega
  ·injection e with e
   injection e with e
   injection e with ea eb
   subst ea eb;have h03:0<P.ac.length:=by omega
   have:=ha2 0 h03;rw [bK h03] at this;simp only [yh] at this;rw [hx] at this;cases this
theorem Jn {α:Type} {f:α→Value} {w w':World} {v:Value} {l:List α} {b:Nat} (h:Rd f w v l) (hf:∀x p n k,f x≠ .slice p n k) (hc:∀i v,w.cell? ⟨b,i,none⟩=some v→uU w v) (hg:w.grownBy w' (some b)):Rd f w' v l:=by
 rcases h with hn | ⟨g,o,cap,rfl,hcp,ha,hlt⟩
 ·exact .inl hn
 ·by_cases h0:0<l.length
  ·refine .inr ⟨g,o,cap,rfl,hcp,ha.grown hg hlt (fun e=> ?_),bJ hlt hg.size⟩;injection e with e
   subst e;have:=ha 0 h0;rw [bK h0] at this;obtain ⟨⟨p,n,k,e⟩,_⟩:=hc _ _ this;exact hf _ _ _ _ e
  ·exact .inr ⟨g,o,cap,rfl,hcp,fun i hi=>by omega,bJ hlt hg.size⟩
theorem dm.Cw {w w':World} {v:Value} {D:DF} {b:Nat} (h:dm w v D) (hD:D.Ok) (hc:∀i v,w.cell? ⟨b,i,none⟩=some v→uU w v) (hg:w.grownBy w' (some b)):dm w' v D:=by
 obtain ⟨vc,vn,va,rfl,h1,h2,h3⟩:=h;refine ⟨vc,vn,va,rfl,?_,?_,Jn h3 (fun x _ _ _ e=>by cases e) hc hg⟩
 ·rcases h1 with hn | ⟨g,o,cap,rfl,hcp,ha,hlt⟩
  ·exact .inl hn
  ·refine .inr ⟨g,o,cap,rfl,hcp,fun i hi=>(ha i hi).grown hg hlt (fun e=> ?_),bJ hlt hg.size⟩;injection e with e
   subst e;have:=ha i hi 0 (by show 0<4;omega);obtain ⟨⟨p,n,k,e⟩,_⟩:=hc _ _ this;cases e
 ·rcases h2 with hn | ⟨g,o,cap,rfl,hcp,ha,hlt⟩
  ·exact .inl hn
  ·refine .inr ⟨g,o,cap,rfl,hcp,fun i hi=> ?_,bJ hlt hg.size⟩;obtain ⟨u,e1,e2⟩:=ha i hi;refine ⟨u,(o6 (a:=⟨g,o+i,none⟩) (hg.block g hlt (fun e=> ?_))).trans e1,Jn e2 (fun x _ _ _ e=>by cases e) hc hg⟩;injection e with e
   subst e;have hl:=hD.rw _ (oO hi);have hc1:=hD.c1;exact (hc _ _ e1).2 _ (by omega) e2
def ru (x:OC×OC×OC):List OC:=[x.1,x.2.1,x.2.2]
theorem oM (x:OC×OC×OC):(ru x).length=3:=rfl
def sQ (p1:Option Addr) (n1 k1:Nat) (p2:Option Addr) (n2 k2:Nat) (p3:Option Addr) (n3 k3:Nat):OC×OC×OC:=(⟨.slice p1 n1 k1,rfl⟩,⟨.slice p2 n2 k2,rfl⟩,⟨.slice p3 n3 k3,rfl⟩)
structure GJ (w W:World) (re bl:Nat) (c:Cl) (lo:Int) (l:List (OC×OC×OC)):Prop where
 b:Below w.heap.size w W
 r:Row oV W w.heap.size 79 [on,on,on]
 n0:At oV W re 0 (fI 3 c 0 0 0 0)
 n1:At oV W re 9 (fI 8 ⟨0,0,0,0⟩ 0 0 lo (-1))
 l:aP 3 ru W (w.heap.size+1) 79 (.slice (some ⟨bl,0,none⟩) 2 2) l
 re:re<w.heap.size
theorem GJ.up {w W X:World} {re bl:Nat} {c:Cl} {lo:Int} {l:List (OC×OC×OC)} (h:GJ w W re bl c lo l) (hB:Below W.heap.size W X):GJ w X re bl c lo l:=
 have hre:=bJ h.re h.b.size
 ⟨h.b.trans (hB.mono h.b.size),h.r.below hB h.r.lt,h.n0.below hB hre,h.n1.below hB hre,h.l.below' hB,h.re⟩
theorem GJ.row {w W:World} {re bl:Nat} {c:Cl} {lo:Int} {l:List (OC×OC×OC)} (h:GJ w W re bl c lo l):w.heap.size+1≤bl∧bl<W.heap.size:=h.l.lt bl rfl
theorem GJ.store {w W W':World} {re bl:Nat} {c:Cl} {lo:Int} {l l':List (OC×OC×OC)} (h:GJ w W re bl c lo l) (hG:W.grownBy W' (some bl)) (hO:aP 3 ru W' (w.heap.size+1) 79 (.slice (some ⟨bl,0,none⟩) 2 2) l'):GJ w W' re bl c lo l':=by
 have hbl:=h.row;have hre:=h.re;have hb:=h.b.size;exact ⟨h.b.grown hG hb (fun k e=>by injection e with e;omega),h.r.grown hG (fun e=>by injection e with e;omega),h.n0.grown hG (by omega) (fun e=>by injection e with e;omega),h.n1.grown hG (by omega) (fun e=>by injection e with e;omega),hO,h.re⟩
theorem Du {W:World} {base:Nat} {e:TypeId} {bl:Nat} {l:List (OC×OC×OC)} (h:aP 3 ru W base e (.slice (some ⟨bl,0,none⟩) 2 2) l) (hl:l.length=2) (i:Nat) (v:Value) (hv:W.cell? ⟨bl,i,none⟩=some v):∃x∈l,v=oV x.1∨v=oV x.2.1∨v=oV x.2.2:=by
 rcases h.2 with ⟨h0,_⟩ | ⟨g2,cap,cur,he,hbg,hc,hn,hm,hs,ht⟩
 ·cases h0
 ·injection he with he1 he2 GZ
  injection he1 with he1
  injection he1 with he1 _ _
  subst he1 GZ;unfold World.cell? at hv;rw [hc] at hv;simp only at hv;have hv2:cur[i]?=some v:=hv
  have hm2:v∈cur.toList:=by
   rw [Array.mem_toList_iff];exact qcZ hv2
  have htk:cur.toList.take (l.length * 3)=cur.toList:=pM (by rw [Gm (xs:=cur),hs,hl];exact af _);rw [← htk,ht] at hm2;obtain ⟨y,hy,rfl⟩:=uW.1 hm2;obtain ⟨x,hx,hyx⟩:=TS.1 hy;refine ⟨x,hx,?_⟩;simp only [ru,nX,Dj,or_false] at hyx;rcases hyx with rfl | rfl | rfl
  ·exact .inl rfl
  ·exact .inr (.inl rfl)
  ·exact .inr (.inr rfl)
theorem abT (w:World) (re cap:Nat) (c:Cl) (lo:Int) (R:DF) (h0:At oV w re 0 (fI 3 c 0 0 0 0)) (h1:At oV w re 9 (fI 8 ⟨0,0,0,0⟩ 0 0 lo (-1))) (hre:re<w.heap.size) (hc:c.Let) (hrep:Ja (bP (bZ c)).canon lo R) (EH:R.Ok)
  (hval:∀W,Below w.heap.size w W→Calls Tryz.prog 98 #[.slice (some ⟨re,0,none⟩) 2 cap] W fun e w'=>e= .returned (.int .i64 0)∧Below W.heap.size W w') (hT:gV w) (htl:1<w.heap.size):
  Calls Tryz.prog 62 #[.slice (some ⟨re,0,none⟩) 2 cap] w fun e w'=>∃v,e= .returned v∧fF w' v (.ok R)∧Below w.heap.size w w':=by
 have HC:=Lib.hid hc;have HT:=Lib.hid hT;have iy:=Lib.hid htl;have HV:=Lib.hid hval;have sV:=Lib.hid EH;have HRP:=Lib.hid hrep;have yK:=Lib.hid (jD hc.v.toOk);obtain ⟨D,HDD⟩:∃D,Hid ((bP (bZ c)).canon=D):=⟨_,Lib.hid rfl⟩
 have GV:Hid D.Ok:=Lib.hid (HDD.out▸yK.out.canon.1);rw [HDD.out] at HRP;have HE:Hid (∀(w':World) u,dm w' u R→fF w' (.tuple #[u, .int .i64 0]) (.ok R)):=Lib.hid (fun w' u h=>⟨u,rfl,h⟩);have hb0:Below w.heap.size w (w.alloc (.cells #[.slice none 0 0, .slice none 0 0, .slice none 0 0] 79)):=(ak _ _).alloc (af _) _;have hr0:Row oV (w.alloc (.cells #[.slice none 0 0, .slice none 0 0, .slice none 0 0] 79)) w.heap.size 79 [on,on,on]:=Row.new _ _ rfl;have s0:(w.alloc (.cells #[.slice none 0 0, .slice none 0 0, .slice none 0 0] 79)).heap.size=w.heap.size+1:=bO _ _;clear hc hrep EH hval hT htl;go_enter Tryz.func62,Tryz.ntmps62;go_upto_region 1 with (fail);generalize (w.alloc (.cells #[.slice none 0 0, .slice none 0 0, .slice none 0 0] 79))=Wx at hb0 hr0 s0 ⊢;go_wp2_with fail;refine (HV.out Wx hb0).mono ?_;rintro e W1 ⟨rfl,hB1⟩;have hb1:=hb0.trans (hB1.mono hb0.size);have hr1:=hr0.below hB1 hr0.lt;have s1:w.heap.size+1≤W1.heap.size:=s0▸hB1.size;clear hb0 hr0 s0 hB1;have hmk:∀w:World,(Instr.makeSlice 204 (.int .i64 2) (.int .i64 2)).run Tryz.prog w= .ok (.slice (some ⟨w.heap.size,0,none⟩) 2 2) (w.alloc (.cells #[.slice none 0 0, .slice none 0 0, .slice none 0 0, .slice none 0 0, .slice none 0 0, .slice none 0 0] 79)):=fun w=>by first | rfl | kernel_rfl
 go_upto_region 5 with (fail);clear hmk
 have hS:GJ w (W1.alloc (.cells #[.slice none 0 0, .slice none 0 0, .slice none 0 0, .slice none 0 0, .slice none 0 0, .slice none 0 0] 79)) re W1.heap.size c lo [(sQ none 0 0 none 0 0 none 0 0),(sQ none 0 0 none 0 0 none 0 0)]:=by
  have hal:Below W1.heap.size W1 (W1.alloc (.cells #[.slice none 0 0, .slice none 0 0, .slice none 0 0, .slice none 0 0, .slice none 0 0, .slice none 0 0] 79)):=(ak _ _).alloc (af _) _;have hrow:Row oV (W1.alloc (.cells #[.slice none 0 0, .slice none 0 0, .slice none 0 0, .slice none 0 0, .slice none 0 0, .slice none 0 0] 79)) W1.heap.size 79 [on,on,on,on,on,on]:=Row.new _ _ rfl;have hb2:=hb1.trans (hal.mono hb1.size);exact ⟨hb2,hr1.below hal hr1.lt,h0.below hb2 hre,h1.below hb2 hre,⟨rfl, .inr ⟨W1.heap.size,2,_,rfl,s1,hrow,by simp,by decide,rfl,rfl⟩⟩,hre⟩
 change Code.wp _ _ _ _ (W1.alloc (.cells #[.slice none 0 0, .slice none 0 0, .slice none 0 0, .slice none 0 0, .slice none 0 0, .slice none 0 0] 79));generalize (W1.alloc (.cells #[.slice none 0 0, .slice none 0 0, .slice none 0 0, .slice none 0 0, .slice none 0 0, .slice none 0 0] 79))=W2 at hS ⊢;generalize W1.heap.size=bl at hS ⊢;clear hb1 hr1 s1 h0 h1;go_wp2_with fail;refine wp_loop_rounds 3 ?_;refine aj (n:=2) ?_;have hn:=hS.n0;have hZ:Row oV (W2.alloc (.cells #[.int .i64 0, .int .u64 0, .int .u64 0, .int .u64 0, .int .u64 0, .int .i64 0, .int .i64 0, .int .i64 0, .int .i64 0] 157)) W2.heap.size 157 (fI 0 ⟨0,0,0,0⟩ 0 0 0 0):=Row.new _ _ rfl;have Ep:Hid ((lq 3 c 0 0 0 0)=((fI 3 c 0 0 0 0).map oV).toArray):=Lib.hid rfl
 go_wp2_with (first
  | ((with_reducible refine aN (f:=oV) (l:=fI 3 c 0 0 0 0) (C:=lq 3 c 0 0 0 0) pW (.tmp 24) ?_ ?_ re 0 ?_ hn rfl ?_);rfl;rfl;rfl)
  | ((with_reducible refine aF (f:=oV) (l:=fI 0 ⟨0,0,0,0⟩ 0 0 0 0) (l':=fI 3 c 0 0 0 0) (t:=157) (C:=lq 3 c 0 0 0 0) pW (.tmp 7) (.tmp 25) ?_ ?_ W2.heap.size ?_ ?_ ?_ hZ ?_ bC ?_);rfl;rfl;rfl;rfl;rfl;rfl;(intro W0a hr2 hG2 hz2);(refine bM.back ?_)))
 have hB2:Below W2.heap.size W2 W0a:=((ak _ _).alloc (af _) _).grown hG2 (by simp) (fun k e=>by injection e with e;rw [← e];exact af _);replace hS:=hS.up hB2;clear hn hZ hG2 hz2 hB2;generalize W2.heap.size=tn at hr2 ⊢;refine bM.out ?_;go_wp2_with ((with_reducible refine aN (f:=oV) (l:=fI 3 c 0 0 0 0) (C:=lq 3 c 0 0 0 0) pW (.tmp 7) ?_ ?_ tn 0 ?_ hr2.at rfl ?_);rfl;rfl;rfl);refine (node3 W0a _ c 0 0 0 0 HC.out (HT.out.below hS.b iy.out) (bJ iy.out hS.b.size)).mono ?_;rw [HDD.out];rintro e FI ⟨v,rfl,⟨u,rfl,hu0⟩,hB3⟩;replace hS:=hS.up hB3;clear hB3 hr2;obtain ⟨d1,dk1,d2,dk2,d3,dk3,rfl⟩:=hu0.parts;obtain ⟨eT,Oy⟩:∃n,Hid (D.cls.length=n):=⟨_,Lib.hid rfl⟩
 obtain ⟨eP,O8⟩:∃n,Hid (D.nx.length=n):=⟨_,Lib.hid rfl⟩
 obtain ⟨eO,OV⟩:∃n,Hid (D.ac.length=n):=⟨_,Lib.hid rfl⟩
 rw [Oy.out,O8.out,OV.out] at hu0 ⊢;go_upto_region 9 with (fail);have hal:Below FI.heap.size FI (FI.alloc (.cells #[.slice d1 eT dk1, .slice d2 eP dk2, .slice d3 eO dk3] 79)):=(ak _ _).alloc (af _) _;have hrw:Row oV (FI.alloc (.cells #[.slice d1 eT dk1, .slice d2 eP dk2, .slice d3 eO dk3] 79)) FI.heap.size 79 (bF d1 eT dk1 d2 eP dk2 d3 eO dk3):=Row.new _ _ rfl;replace hS:=hS.up hal;replace hu0:=hu0.below hal;clear hal;change Code.wp _ _ _ _ (FI.alloc (.cells #[.slice d1 eT dk1, .slice d2 eP dk2, .slice d3 eO dk3] 79));generalize (FI.alloc (.cells #[.slice d1 eT dk1, .slice d2 eP dk2, .slice d3 eO dk3] 79))=ael at hS hrw hu0 ⊢;generalize FI.heap.size=tm at hrw ⊢;have hO:=hS.l
 go_wp2_with (first
  | ((with_reducible refine aN (f:=oV) (l:=bF d1 eT dk1 d2 eP dk2 d3 eO dk3) (C:= #[.slice d1 eT dk1, .slice d2 eP dk2, .slice d3 eO dk3]) bN (.tmp 8) ?_ ?_ tm 0 ?_ hrw.at ?_ ?_);rfl;rfl;rfl;rfl)
  | ((with_reducible refine jh (C:= #[.slice d1 eT dk1, .slice d2 eP dk2, .slice d3 eO dk3]) (enc:=ru) bN oM (.tmp 39) (.tmp 38) ?_ ?_ bl 2 2 0 0 rfl ?_ (sQ d1 eT dk1 d2 eP dk2 d3 eO dk3) ?_ ?_ hO (by simp) ?_);rfl;rfl;rfl;rfl;rfl;(intro Jp nE jk);(refine bM.back ?_)))
 have hnr:∀i v,ael.cell? ⟨bl,i,none⟩=some v→uU ael v:=fun i v hv=>by
  obtain ⟨x,hx,hv⟩:=Du hO rfl i v hv;simp only [nX,Dj,or_false,or_self] at hx;subst hx;rcases hv with rfl | rfl | rfl<;>exact xk _
 have JL:=hu0.Cw GV.out hnr jk;have Kz:=hS.store jk nE;clear hS hrw hu0 hO hnr jk nE;have hS:GJ w Jp re bl c lo [(sQ d1 eT dk1 d2 eP dk2 d3 eO dk3),(sQ none 0 0 none 0 0 none 0 0)]:=Kz;have hu0:=JL;clear Kz JL;refine bM.out ?_;go_wp2_with fail
 have hEl:Hid (∀W,GJ w W re bl c lo [(sQ d1 eT dk1 d2 eP dk2 d3 eO dk3),(sQ none 0 0 none 0 0 none 0 0)]→At oV W bl 0 (bF d1 eT dk1 d2 eP dk2 d3 eO dk3)):=Lib.hid fun W h=>by
  obtain ⟨_,eK,_,hx⟩:=gp oM h.l 0 (by simp);injection eK with eK
  injection eK with eK
  subst eK;exact hx
 refine aj (n:=1) ?_;have hn:=hS.n1;have hZ:Row oV (Jp.alloc (.cells #[.int .i64 0, .int .u64 0, .int .u64 0, .int .u64 0, .int .u64 0, .int .i64 0, .int .i64 0, .int .i64 0, .int .i64 0] 157)) Jp.heap.size 157 (fI 0 ⟨0,0,0,0⟩ 0 0 0 0):=Row.new _ _ rfl;have Ep:Hid ((lq 8 ⟨0,0,0,0⟩ 0 0 lo (-1))=((fI 8 ⟨0,0,0,0⟩ 0 0 lo (-1)).map oV).toArray):=Lib.hid rfl
 go_wp2_with (first
  | ((with_reducible refine aN (f:=oV) (l:=fI 8 ⟨0,0,0,0⟩ 0 0 lo (-1)) (C:=lq 8 ⟨0,0,0,0⟩ 0 0 lo (-1)) pW (.tmp 24) ?_ ?_ re 9 ?_ hn rfl ?_);rfl;rfl;rfl)
  | ((with_reducible refine aF (f:=oV) (l:=fI 0 ⟨0,0,0,0⟩ 0 0 0 0) (l':=fI 8 ⟨0,0,0,0⟩ 0 0 lo (-1)) (t:=157) (C:=lq 8 ⟨0,0,0,0⟩ 0 0 lo (-1)) pW (.tmp 7) (.tmp 25) ?_ ?_ Jp.heap.size ?_ ?_ ?_ hZ ?_ bC ?_);rfl;rfl;rfl;rfl;rfl;rfl;(intro W1a hr2 hG2 hz2);(refine bM.back ?_)))
 have hB2:Below Jp.heap.size Jp W1a:=((ak _ _).alloc (af _) _).grown hG2 (by simp) (fun k e=>by injection e with e;rw [← e];exact af _);replace hS:=hS.up hB2;replace hu0:=hu0.below hB2;clear hn hZ hG2 hz2 hB2;generalize Jp.heap.size=tn at hr2 ⊢;refine bM.out ?_;have hat:=hEl.out W1a hS;go_wp2_with ((with_reducible refine aN (f:=oV) (l:=fI 8 ⟨0,0,0,0⟩ 0 0 lo (-1)) (C:=lq 8 ⟨0,0,0,0⟩ 0 0 lo (-1)) pW (.tmp 7) ?_ ?_ tn 0 ?_ hr2.at rfl ?_);rfl;rfl;rfl);refine (node8 W1a bl 2 2 ⟨0,0,0,0⟩ 0 lo d1 d2 d3 eT dk1 eP dk2 eO dk3 D R hat (bJ hS.row.2 (af _)) (by decide) hu0 HRP.out sV.out (HT.out.below hS.b iy.out) (bJ iy.out hS.b.size)).mono ?_;rintro e Fs ⟨v,rfl,⟨u,rfl,hu1⟩,hB3⟩;replace hS:=hS.up hB3;replace hu0:=hu0.below hB3;clear hB3 hr2;obtain ⟨r1,iN,r2,iM,r3,iK,rfl⟩:=hu1.parts;obtain ⟨ig,Nh⟩:∃n,Hid (R.cls.length=n):=⟨_,Lib.hid rfl⟩
 obtain ⟨gu,Od⟩:∃n,Hid (R.nx.length=n):=⟨_,Lib.hid rfl⟩
 obtain ⟨gX,OD⟩:∃n,Hid (R.ac.length=n):=⟨_,Lib.hid rfl⟩
 rw [Nh.out,Od.out,OD.out] at hu1 ⊢;go_upto_region 9 with (fail);have hal:Below Fs.heap.size Fs (Fs.alloc (.cells #[.slice r1 ig iN, .slice r2 gu iM, .slice r3 gX iK] 79)):=(ak _ _).alloc (af _) _;have hrw:Row oV (Fs.alloc (.cells #[.slice r1 ig iN, .slice r2 gu iM, .slice r3 gX iK] 79)) Fs.heap.size 79 (bF r1 ig iN r2 gu iM r3 gX iK):=Row.new _ _ rfl;replace hS:=hS.up hal;replace hu1:=hu1.below hal;replace hu0:=hu0.below hal;clear hal;change Code.wp _ _ _ _ (Fs.alloc (.cells #[.slice r1 ig iN, .slice r2 gu iM, .slice r3 gX iK] 79));generalize (Fs.alloc (.cells #[.slice r1 ig iN, .slice r2 gu iM, .slice r3 gX iK] 79))=aeh at hS hrw hu1 hu0 ⊢;generalize Fs.heap.size=tm at hrw ⊢;have hO:=hS.l
 go_wp2_with (first
  | ((with_reducible refine aN (f:=oV) (l:=bF r1 ig iN r2 gu iM r3 gX iK) (C:= #[.slice r1 ig iN, .slice r2 gu iM, .slice r3 gX iK]) bN (.tmp 8) ?_ ?_ tm 0 ?_ hrw.at ?_ ?_);rfl;rfl;rfl;rfl)
  | ((with_reducible refine jh (C:= #[.slice r1 ig iN, .slice r2 gu iM, .slice r3 gX iK]) (enc:=ru) bN oM (.tmp 39) (.tmp 38) ?_ ?_ bl 2 2 1 3 rfl ?_ (sQ r1 ig iN r2 gu iM r3 gX iK) ?_ ?_ hO (by simp) ?_);rfl;rfl;rfl;rfl;rfl;(intro adr nE jk);(refine bM.back ?_)))
 have hnr:∀i v,aeh.cell? ⟨bl,i,none⟩=some v→uU aeh v:=fun i v hv=>by
  obtain ⟨x,hx,hv⟩:=Du hO rfl i v hv;obtain ⟨n1,n2,n3⟩:=hu0.aav GV.out;simp only [nX,Dj,or_false] at hx;rcases hx with rfl | rfl
  ·rcases hv with rfl | rfl | rfl
   ·exact n1
   ·exact n2
   ·exact n3
  ·rcases hv with rfl | rfl | rfl<;>exact xk _
 have UM:=hu1.Cw sV.out hnr jk;have Kz:=hS.store jk nE;clear hS hrw hu1 hO hnr jk nE hu0;have hS:GJ w adr re bl c lo [(sQ d1 eT dk1 d2 eP dk2 d3 eO dk3),(sQ r1 ig iN r2 gu iM r3 gX iK)]:=Kz;have hu1:=UM;clear Kz UM;refine bM.out ?_;go_wp2_with fail;refine aj (n:=0) ?_
 have hat:At oV adr bl 3 (bF r1 ig iN r2 gu iM r3 gX iK):=by
  obtain ⟨_,eK,_,hx⟩:=gp oM hS.l 1 (by simp);injection eK with eK
  injection eK with eK
  subst eK;exact hx
 have hr:=hS.r;have hb:=hS.b;have hrl:=hr.lt
 go_wp2_with (first
  | ((with_reducible refine aN (f:=oV) (l:=bF r1 ig iN r2 gu iM r3 gX iK) (C:= #[.slice r1 ig iN, .slice r2 gu iM, .slice r3 gX iK]) bN (.tmp 45) ?_ ?_ bl 3 ?_ hat ?_ ?_);rfl;rfl;rfl;rfl)
  | ((with_reducible refine aF (f:=oV) (l:=[on,on,on]) (l':=bF r1 ig iN r2 gu iM r3 gX iK) (t:=79) (C:= #[.slice r1 ig iN, .slice r2 gu iM, .slice r3 gX iK]) bN (.tmp 2) (.tmp 46) ?_ ?_ w.heap.size ?_ ?_ ?_ hr ?_ bC ?_);rfl;rfl;rfl;rfl;rfl;rfl;(intro WZ EC vZ Xh)))
 refine bodyPost_ret (v:= .tuple #[.agg #[.slice r1 ig iN, .slice r2 gu iM, .slice r3 gX iK], .int .i64 0]) (bD (f:=oV) (l:=bF r1 ig iN r2 gu iM r3 gX iK) (t:=3) rfl _ bN w.heap.size 0 rfl EC.at) rfl ?_;exact ⟨_,rfl,HE.out _ _ (hu1.avoid sV.out hr vZ),hb.grown vZ hb.size (fun k e=>by injection e with e;omega)⟩
theorem NT (c1 c2:List Nat) (k:Nat) (hk:k+1≤256) (z:Nat) (hz:z∈(iq c1 c2 (k+1)).cell):z<(iq c1 c2 (k+1)).bs.length:=by
 have h:=jQ c1 c2 (k+1) hk;have h1:=wO c1 c2 k;have h2:=h.cb z hz;have h3:=h.bl;generalize iq c1 c2 (k+1)=J at *;omega
theorem MO (x y:TB) (z:Nat) (hz:z∈(Br x y).cell):z<(Br x y).bs.length:=NT x.cell y.cell 255 (by decide) z hz
theorem Yt {x T:TB} (h:Er x=some T):T.Ok:=
 have hj:=jQ x.cell x.cell 256 (af _)
 Dn (ok:=ql) (K:=4096) ⟨by decide,by decide⟩ (by decide) (fun s _ c _=>by obtain ⟨h1,h2⟩:=DC x s c;exact ⟨by rw [h1];decide,by rw [h2];decide⟩) (fun l h=>h.le) (by decide) hj.cl hj.le (MO x x) h
theorem aaE {x y T:TB} (hx:x.Ok) (h:P7 x y=some T):T.Ok:=
 have hj:=jQ x.cell y.cell 256 (af _)
 Dn (ok:=fun s=>s.1<x.nx.length∧s.2.1=0) (K:=4096) ⟨by rw [(fu x jM).1];exact hx.n1,(fu x jM).2⟩ (by decide) (fun s hs c hc=>⟨by unfold vI;rw [(fu x _).1];exact hx.SK hs.1 (acI c hc),by unfold vI;rw [(fu x _).2]⟩) (fun l h=>h.le) (by decide) hj.cl hj.le (MO x y) h
theorem abz {T:TB} {S:DF} (h:lim T= .ok S) (hT:T.Ok):S.V:=by
 unfold lim at h;split at h
 ·injection h with h
  subst h;exact hT.Nn ‹_›
 ·cases h
theorem ac0 {A S:DF} (h:A.star= .ok S):S.V:=by
 unfold DF.star at h;cases hT:Er (kT A) with
 | none=>rw [hT] at h;cases h
 | some T=>rw [hT] at h;exact abz h (Yt hT)
theorem Io {A B S:DF} (hA:A.V) (h:A.cat B= .ok S):S.V:=by
 unfold DF.cat at h;cases hT:P7 (kT A) (kT B) with
 | none=>rw [hT] at h;cases h
 | some T=>rw [hT] at h;exact abz h (aaE (Bp hA).1 hT)
def nI (c:Cl):DF:=(bP (bZ c)).canon
theorem UY {c:Cl} (hc:c.Let) (h:(nI c).nx.length≤64):(nI c).V:=(jD hc.v.toOk).Nn h
theorem y7 (h:eF.canon.nx.length≤64):eF.canon.V:=yQ.Nn h
theorem Tj {c:Cl} {lo:Int} {P S R:DF} (hc:c.Let) (hn:(nI c).nx.length≤64) (RP:Ow (nI c) lo P) (hP:P.V) (hS:(nI c).star= .ok S) (hR:P.cat S= .ok R) (hlo:((-1:Int)==lo)=false):Ja (nI c) lo R:=
 fun w vd hd hT hl=>afG w vd (nI c) P S R lo hd (UY hc hn) RP hP hS (ac0 hS) hR (Io hP hR).toOk hlo hT hl
def yw (c:Cl) (one:Bool):Bool:=
 decide ((nI c).nx.length≤64) && match (nI c).star with
  | .ok S=>(match (if one then eF.canon.cat (nI c) else .ok eF.canon) with
   | .ok P=>(match P.cat S with | .ok _=>true | .error _=>false)
   | .error _=>false)
  | .error _=>false
theorem XE {c:Cl} {one:Bool} (hw:eF.canon.nx.length≤64) (hc:c.Let) (h:yw c one=true):∃R,Ja (nI c) (if one then 1 else 0) R∧R.Ok:=by
 unfold yw at h;rw [cB,decide_eq_true_eq] at h;obtain ⟨hn,h⟩:=h;cases hS:(nI c).star with
 | error e=>rw [hS] at h;cases h
 | ok S=>
  rw [hS] at h;simp only at h;cases one with
  | false=>
   simp only [Iu,if_false] at h ⊢;cases hR:eF.canon.cat S with
   | error e=>rw [hR] at h;cases h
   | ok R=>exact ⟨R,Tj hc hn (UB _) (y7 hw) hS hR (by decide),(Io (y7 hw) hR).toOk⟩
  | true=>
   simp only [if_true] at h ⊢;cases hP:eF.canon.cat (nI c) with
   | error e=>rw [hP] at h;cases h
   | ok P=>
    rw [hP] at h;simp only at h;have hPV:=Io (y7 hw) hP;cases hR:P.cat S with
    | error e=>rw [hR] at h;cases h
    | ok R=>exact ⟨R,Tj hc hn (acg _ _ (UY hc hn) (y7 hw) hP hPV.toOk) hPV hS hR (by decide),(Io hPV hR).toOk⟩
theorem Gb {c:Cl} {lo:Int} {R:DF} (w:World) (re cap:Nat) (h0:At oV w re 0 (fI 3 c 0 0 0 0)) (h1:At oV w re 9 (fI 8 ⟨0,0,0,0⟩ 0 0 lo (-1))) (hre:re<w.heap.size) (hc:c.Let) (hrep:Ja (nI c) lo R) (EH:R.Ok)
  (hval:∀W,Below w.heap.size w W→Calls Tryz.prog 98 #[.slice (some ⟨re,0,none⟩) 2 cap] W fun e w'=>e= .returned (.int .i64 0)∧Below W.heap.size W w') (hT:gV w) (htl:1<w.heap.size):
  Calls Tryz.prog 62 #[.slice (some ⟨re,0,none⟩) 2 cap] w fun e w'=>∃v,e= .returned v∧fF w' v (.ok R)∧Below w.heap.size w w':=abT w re cap c lo R h0 h1 hre hc hrep EH hval hT htl
def zR:Cl:=⟨0,8589934592,0,0⟩
def Fq:Cl:=⟨0,17179869184,0,0⟩
def wF:Cl:=⟨0,25769803776,0,0⟩
theorem OE {c:Cl} (h1:c.size≠0) (h2:c≠⟨0,0,0,0⟩) (h3:c.non≠⟨0,0,0,0⟩) (h4:c.non.least<c.least) (hi:c.non.inter c=bV) (hu:(kG (bZ c).cls (bZ c).cls.length).non=bV) (h0:(kG (bZ c).cls 0).inter c.non=bV) (h1':(kG (bZ c).cls 1).inter c=bV)
  (hn:∃n:UInt8,c.non.least=(n.toNat:Int)∧c.has n=false) (hy:∃n:UInt8,c.least=(n.toNat:Int)∧c.has n=true):c.Let where
 size:=h1
 h0:=h2
 h1:=h3
 lt:=h4
 no:=hn
 yes:=hy
 v:={
  c1:=by simp [bZ]
  lY:=by simp [bZ]
  n1:=by simp [bZ]
  nn:=by simp [bZ]
  ac:=rfl
  rw:=by intro r hr;simp only [bZ,nX,Dj,or_false] at hr;rcases hr with rfl | rfl | rfl<;>rfl
  rb:=by intro r hr t ht;simp only [bZ,nX,Dj,or_false] at hr;rcases hr with rfl | rfl | rfl<;>(simp only [nX,Dj,or_false] at ht;rcases ht with rfl | rfl<;>simp [bZ])
  n64:=by simp [bZ]
  ne:=by intro x hx;simp only [bZ,nX,Dj,or_false] at hx;rcases hx with rfl | rfl;exact h3;exact h2
  dj:=by
   intro k hk
   match k,hk with
   | 0,_=>exact h0
   | 1,_=>exact h1'
  un:=hu}
theorem abx:zR.Let:=OE (by decide+kernel) (by decide+kernel) (by decide+kernel) (by decide+kernel) (by decide+kernel) (by decide+kernel) (by decide+kernel) (by decide+kernel) ⟨0,by decide+kernel,by decide+kernel⟩ ⟨97,by decide+kernel,by decide+kernel⟩
theorem aeU:Fq.Let:=OE (by decide+kernel) (by decide+kernel) (by decide+kernel) (by decide+kernel) (by decide+kernel) (by decide+kernel) (by decide+kernel) (by decide+kernel) ⟨0,by decide+kernel,by decide+kernel⟩ ⟨98,by decide+kernel,by decide+kernel⟩
theorem acN:wF.Let:=OE (by decide+kernel) (by decide+kernel) (by decide+kernel) (by decide+kernel) (by decide+kernel) (by decide+kernel) (by decide+kernel) (by decide+kernel) ⟨0,by decide+kernel,by decide+kernel⟩ ⟨97,by decide+kernel,by decide+kernel⟩
theorem O6 (w:World):Calls Tryz.prog 133 #[.int .i64 3] w fun e w'=>e= .returned (.int .i64 0)∧w'=w:=by
 go_enter Tryz.func133,Tryz.ntmps133;go_wp2_with fail;go_ret;exact ⟨rfl,rfl⟩
theorem OI (w:World):Calls Tryz.prog 133 #[.int .i64 8] w fun e w'=>e= .returned (.int .i64 1)∧w'=w:=by
 go_enter Tryz.func133,Tryz.ntmps133;go_wp2_with fail;go_ret;exact ⟨rfl,rfl⟩
theorem ZF (w:World) (b:Nat) (hi:w.cell? ⟨b,0,none⟩=some (.int .i64 1)):Calls Tryz.prog 174 #[.int .i64 0, .pointer (some ⟨b,0,none⟩)] w fun e w'=>e= .returned (.bool true)∧w'=w:=by
 go_enter Tryz.func174,Tryz.ntmps174;go_wp2_with fail;go_ret;exact ⟨rfl,rfl⟩
theorem acY (w:World) (c:Cl) (i:Int):Calls Tryz.prog 132 #[.agg (lq 3 c 0 0 0 0), .int .i64 i] w fun e w'=>e= .returned (.int .i64 0)∧Below w.heap.size w w':=by
 have s1:(w.alloc (.cells (lq 3 c 0 0 0 0) 157)).heap.size=w.heap.size+1:=bO _ _
 obtain ⟨W,hW,hB,r1,hi⟩:∃W,((w.alloc (.cells (lq 3 c 0 0 0 0) 157)).alloc (.cells #[.int .i64 i] 3))=W∧Below w.heap.size w W∧Row oV W w.heap.size 157 (fI 3 c 0 0 0 0)∧W.cell? ⟨w.heap.size+1,0,none⟩=some (.int .i64 i):=by
  have r1:Row oV (w.alloc (.cells (lq 3 c 0 0 0 0) 157)) w.heap.size 157 (fI 3 c 0 0 0 0):=Row.new _ _ rfl;have r2:=Row.new (f:=oV) (w.alloc (.cells (lq 3 c 0 0 0 0) 157)) (t:=3) (l:=[oi i]) (.cells #[.int .i64 i] 3) rfl;rw [s1] at r2;exact ⟨_,rfl,((ak _ _).alloc (af _) _).alloc (by rw [s1];omega) _,r1.alloc _,by rw [r2.cell?];rfl⟩
 clear s1;have c0:W.cell? ⟨w.heap.size,0,none⟩=some (.int .i64 3):=by rw [r1.cell?];rfl
 have c5:W.cell? ⟨w.heap.size,5,none⟩=some (.int .i64 0):=by rw [r1.cell?];rfl
 have c6:W.cell? ⟨w.heap.size,6,none⟩=some (.int .i64 0):=by rw [r1.cell?];rfl
 have c7:W.cell? ⟨w.heap.size,7,none⟩=some (.int .i64 0):=by rw [r1.cell?];rfl
 have c8:W.cell? ⟨w.heap.size,8,none⟩=some (.int .i64 0):=by rw [r1.cell?];rfl
 have hcl:=NK r1;go_enter Tryz.func132,Tryz.ntmps132;go_upto_region 1 with (fail);clear hW;go_wp2_with fail;refine (O6 W).mono ?_;rintro e W ⟨rfl,rfl⟩;go_wp2_with fail;go_ret;exact ⟨rfl,hB⟩
theorem ack (w:World):Calls Tryz.prog 132 #[.agg (lq 8 ⟨0,0,0,0⟩ 0 0 0 (-1)), .int .i64 1] w fun e w'=>e= .returned (.int .i64 0)∧Below w.heap.size w w':=by
 have s1:(w.alloc (.cells (lq 8 ⟨0,0,0,0⟩ 0 0 0 (-1)) 157)).heap.size=w.heap.size+1:=bO _ _
 obtain ⟨W,hW,hB,r1,hi⟩:∃W,((w.alloc (.cells (lq 8 ⟨0,0,0,0⟩ 0 0 0 (-1)) 157)).alloc (.cells #[.int .i64 1] 3))=W∧Below w.heap.size w W∧Row oV W w.heap.size 157 (fI 8 ⟨0,0,0,0⟩ 0 0 0 (-1))∧W.cell? ⟨w.heap.size+1,0,none⟩=some (.int .i64 1):=by
  have r1:Row oV (w.alloc (.cells (lq 8 ⟨0,0,0,0⟩ 0 0 0 (-1)) 157)) w.heap.size 157 (fI 8 ⟨0,0,0,0⟩ 0 0 0 (-1)):=Row.new _ _ rfl;have r2:=Row.new (f:=oV) (w.alloc (.cells (lq 8 ⟨0,0,0,0⟩ 0 0 0 (-1)) 157)) (t:=3) (l:=[oi 1]) (.cells #[.int .i64 1] 3) rfl;rw [s1] at r2;exact ⟨_,rfl,((ak _ _).alloc (af _) _).alloc (by rw [s1];omega) _,r1.alloc _,by rw [r2.cell?];rfl⟩
 clear s1;have c0:W.cell? ⟨w.heap.size,0,none⟩=some (.int .i64 8):=by rw [r1.cell?];rfl
 have c5:W.cell? ⟨w.heap.size,5,none⟩=some (.int .i64 0):=by rw [r1.cell?];rfl
 have c6:W.cell? ⟨w.heap.size,6,none⟩=some (.int .i64 0):=by rw [r1.cell?];rfl
 have c7:W.cell? ⟨w.heap.size,7,none⟩=some (.int .i64 0):=by rw [r1.cell?];rfl
 have c8:W.cell? ⟨w.heap.size,8,none⟩=some (.int .i64 (-1)):=by rw [r1.cell?];rfl
 have hcl:=NK r1;go_enter Tryz.func132,Tryz.ntmps132;go_upto_region 1 with (fail);clear hW;go_wp2_with fail;refine (OI W).mono ?_;rintro e W ⟨rfl,rfl⟩;go_wp2_with fail;refine (ZF W (w.heap.size+1) hi).mono ?_;rintro e W ⟨rfl,rfl⟩
 go_wp2_with (first
  | ((with_reducible refine tF (f:=oV) (l:=aG ⟨0,0,0,0⟩) (C:=au ⟨0,0,0,0⟩) ay (.tmp 57) ?_ ?_ w.heap.size 1 ?_ hcl rfl ?_);rfl;rfl;rfl)
  | ((with_reducible refine VF (u:= .bool false) (.binOp .neq 65 (.tmp 58) (.tmp 59) 65) ?_ ?_ ?_ ?_);rfl;rfl;(first | rfl | kernel_rfl)))
 go_ret;exact ⟨rfl,hB⟩
structure Oc (w W:World) (re pr:Nat) (c:Cl) (ps:List Nat):Prop where
 b:Below w.heap.size w W
 n0:At oV W re 0 (fI 3 c 0 0 0 0)
 n1:At oV W re 9 (fI 8 ⟨0,0,0,0⟩ 0 0 0 (-1))
 p:Row nV W pr 3 ps
 re:re<w.heap.size
 pr:w.heap.size≤pr
theorem Oc.up {w W X:World} {re pr:Nat} {c:Cl} {ps:List Nat} (h:Oc w W re pr c ps) (hB:Below W.heap.size W X):Oc w X re pr c ps:=
 have hre:=bJ h.re h.b.size
 ⟨h.b.trans (hB.mono h.b.size),h.n0.below hB hre,h.n1.below hB hre,h.p.below hB h.p.lt,h.re,h.pr⟩
theorem Oc.set {w W:World} {re pr:Nat} {c:Cl} {ps:List Nat} (h:Oc w W re pr c ps) (k v:Nat):Oc w (W.setCell ⟨pr,k,none⟩ (.int .i64 (v:Int))) re pr c (ps.set k v):=by
 have hg:=aB W pr k (.int .i64 (v:Int));have hre:=h.re;have hpr:=h.pr;have hb:=h.b.size;exact ⟨h.b.grown hg hb (fun k e=>by injection e with e;omega),h.n0.grown hg (by omega) (fun e=>by injection e with e;omega),h.n1.grown hg (by omega) (fun e=>by injection e with e;omega),h.p.set k v,h.re,h.pr⟩
theorem Cq (w:World) (re cap:Nat) (c:Cl) (h0:At oV w re 0 (fI 3 c 0 0 0 0)) (h1:At oV w re 9 (fI 8 ⟨0,0,0,0⟩ 0 0 0 (-1))) (hre:re<w.heap.size):
  Calls Tryz.prog 98 #[.slice (some ⟨re,0,none⟩) 2 cap] w fun e w'=>e= .returned (.int .i64 0)∧Below w.heap.size w w':=by
 have hmk:=uh w 2 (by omega);have hal:Below w.heap.size w (w.alloc (.cells ((List.replicate 2 0).map nV).toArray 3)):=(ak _ _).alloc (af _) _;have hS:Oc w (w.alloc (.cells ((List.replicate 2 0).map nV).toArray 3)) re w.heap.size c [0,0]:=⟨hal,h0.below hal hre,h1.below hal hre,Row.new _ _ rfl,hre,af _⟩
 clear hal h0 h1 hre;obtain ⟨MB,lg⟩:∃C,Hid (C=((List.replicate 2 0).map nV).toArray):=⟨_,Lib.hid rfl⟩
 rw [← lg.out] at hmk hS;replace hmk:(Instr.makeSlice 92 (.int .i64 2) (.int .i64 2)).run Tryz.prog w= .ok (.slice (some ⟨w.heap.size,0,none⟩) 2 2) (w.alloc (.cells MB 3)):=hmk;go_enter Tryz.func98,Tryz.ntmps98;go_upto_region 6 with (fail);clear hmk;generalize (w.alloc (.cells MB 3))=W2 at hS ⊢;obtain ⟨pr,Hpr⟩:∃n,Hid (w.heap.size=n):=⟨_,Lib.hid rfl⟩
 have hS:Oc w W2 re pr c [0,0]:=Hpr.out▸hS;rw [Hpr.out];go_wp2_with fail;refine wp_loop_rounds 3 ?_;refine aj (n:=2) ?_;have hn:=hS.n0;have hZ:Row oV (W2.alloc (.cells #[.int .i64 0, .int .u64 0, .int .u64 0, .int .u64 0, .int .u64 0, .int .i64 0, .int .i64 0, .int .i64 0, .int .i64 0] 157)) W2.heap.size 157 (fI 0 ⟨0,0,0,0⟩ 0 0 0 0):=Row.new _ _ rfl
 go_wp2_with (first
  | ((with_reducible refine zL hn pW rfl (C:=lq 3 c 0 0 0 0) ?_))
  | ((with_reducible refine zS (l':=fI 3 c 0 0 0 0) hZ pW ?_);(intro V0 hr2 hG2 hz2);(refine bM.back ?_)))
 have hB2:Below W2.heap.size W2 V0:=((ak _ _).alloc (af _) _).grown hG2 (by simp) (fun k e=>by injection e with e;rw [← e];exact af _);have hpt:=hS.p.lt;replace hS:=hS.up hB2;clear hn hZ hG2 hz2 hB2;obtain ⟨tn0,Htn⟩:∃n,Hid (W2.heap.size=n):=⟨_,Lib.hid rfl⟩
 rw [Htn.out] at hr2 hpt ⊢;clear Htn;refine bM.out ?_;go_wp2_with ((with_reducible refine zL hr2.at pW rfl (C:=lq 3 c 0 0 0 0) ?_));refine (acY V0 c 0).mono ?_;rintro e Gq ⟨rfl,hB3⟩;replace hS:=hS.up hB3;replace hr2:=hr2.below hB3 hr2.lt;clear hB3;have k0:Gq.cell? ⟨tn0,0,none⟩=some (.int .i64 3):=by rw [hr2.cell?];rfl
 have k5:Gq.cell? ⟨tn0,5,none⟩=some (.int .i64 0):=by rw [hr2.cell?];rfl
 go_wp2_with fail;refine (O6 Gq).mono ?_;rintro e V0c ⟨rfl,e2⟩;subst e2;go_wp2_with fail;refine (O6 _).mono ?_;rintro e EB ⟨rfl,e2⟩;subst e2;clear k0 k5 hr2 hpt;go_wp2_with fail;refine aj (n:=1) ?_;have hn:=hS.n1;have hZ:Row oV (EB.alloc (.cells #[.int .i64 0, .int .u64 0, .int .u64 0, .int .u64 0, .int .u64 0, .int .i64 0, .int .i64 0, .int .i64 0, .int .i64 0] 157)) EB.heap.size 157 (fI 0 ⟨0,0,0,0⟩ 0 0 0 0):=Row.new _ _ rfl
 go_wp2_with (first
  | ((with_reducible refine zL hn pW rfl (C:=lq 8 ⟨0,0,0,0⟩ 0 0 0 (-1)) ?_))
  | ((with_reducible refine zS (l':=fI 8 ⟨0,0,0,0⟩ 0 0 0 (-1)) hZ pW ?_);(intro V1 hr2 hG2 hz2);(refine bM.back ?_)))
 have hB2:Below EB.heap.size EB V1:=((ak _ _).alloc (af _) _).grown hG2 (by simp) (fun k e=>by injection e with e;rw [← e];exact af _);have hpt:=hS.p.lt;replace hS:=hS.up hB2;clear hn hZ hG2 hz2 hB2;obtain ⟨tn1,Htn⟩:∃n,Hid (EB.heap.size=n):=⟨_,Lib.hid rfl⟩
 rw [Htn.out] at hr2 hpt ⊢;clear Htn;refine bM.out ?_;go_wp2_with ((with_reducible refine zL hr2.at pW rfl (C:=lq 8 ⟨0,0,0,0⟩ 0 0 0 (-1)) ?_));refine (ack V1).mono ?_;rintro e Gp ⟨rfl,hB3⟩;replace hS:=hS.up hB3;replace hr2:=hr2.below hB3 hr2.lt;clear hB3;have k0:Gp.cell? ⟨tn1,0,none⟩=some (.int .i64 8):=by rw [hr2.cell?];rfl
 have k5:Gp.cell? ⟨tn1,5,none⟩=some (.int .i64 0):=by rw [hr2.cell?];rfl
 go_wp2_with fail;refine (OI Gp).mono ?_;rintro e Wq ⟨rfl,e2⟩;subst e2;have q0:=eU hS.p 0 (by decide);have qf:=hS.p.frozen 0;go_upto_region 14 with (fail);have uH:Oc w (Wq.setCell ⟨pr,0,none⟩ (.int .i64 1)) re pr c [1,0]:=hS.set 0 1;have hr4:=hr2.grown (aB Wq pr 0 (.int .i64 1)) (fun e=>by injection e with e;omega);generalize (Wq.setCell ⟨pr,0,none⟩ (.int .i64 1))=X4 at uH hr4 ⊢;clear q0 qf k0 k5 hS hr2;have k0:X4.cell? ⟨tn1,0,none⟩=some (.int .i64 8):=by rw [hr4.cell?];rfl
 have q0:X4.cell? ⟨pr,0,none⟩=some (.int .i64 1):=by rw [uH.p.cell?];rfl
 go_wp2_with fail;refine (OI _).mono ?_;rintro e X5 ⟨rfl,e2⟩;subst e2;go_wp2_with fail;refine aj (n:=0) ?_;go_wp2_with fail;refine wp_loop_rounds 2 ?_;refine aj (n:=1) ?_;go_wp2_with fail;refine aj (n:=0) ?_;go_wp2_with fail;go_ret;exact ⟨rfl,uH.b⟩
end Go.Proofs.YtncnfncglacheaaGreatDoor
