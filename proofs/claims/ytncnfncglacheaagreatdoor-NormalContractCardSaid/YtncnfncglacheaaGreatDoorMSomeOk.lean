/- Part of a proof. -/
import Derived.Test.YtncnfncglacheaaGreatDoorMSomeV
import Derived.Test.YtncnfncglacheaaGreatDoorMSomeVB
import Derived.Test.YtncnfncglacheaaGreatDoorMSomeVC
set_option linter.all false
set_option maxRecDepth 100000
set_option maxHeartbeats 64000000
namespace Go.Proofs.YtncnfncglacheaaGreatDoor
section
open Go Go.RowKit Mem
def gD (c:Cl) (R:DF):Prop:=∀(w:World) (re cap:Nat),At oV w re 0 (fI 3 c 0 0 0 0)→At oV w re 9 (fI 8 ⟨0,0,0,0⟩ 0 0 0 (-1))→re<w.heap.size→gV w→1<w.heap.size→
  Calls Tryz.prog 62 #[.slice (some ⟨re,0,none⟩) 2 cap] w fun e w'=>∃v,e= .returned v∧fF w' v (.ok R)∧Below w.heap.size w w'
theorem Zq {c:Cl} (hc:c.Let) (hs:yw c false=true):∃R:DF,R.Ok∧gD c R:=by
 obtain ⟨R,hR,hO⟩:=XE DX hc hs;refine ⟨R,hO,fun w re cap h0 h1 hre hT htl=> ?_⟩;refine Gb w re cap h0 h1 hre hc hR hO (fun W hB=> ?_) hT htl;have aa8:=bJ hre hB.size;exact Cq W re cap c (h0.below hB hre) (h1.below hB hre) aa8
theorem acy:∃R:DF,R.Ok∧gD zR R:=Zq abx aaL
def GU (re n:Nat) (f:Bool):List OC:=[⟨.slice (some ⟨re,0,none⟩) 2 n,rfl⟩,⟨.bool f,rfl⟩]
def ptA (re n:Nat) (f:Bool):Array Value:= #[.slice (some ⟨re,0,none⟩) 2 n, .bool f]
theorem M8:bR Tryz.prog 106 2:=⟨fun _=>by kernel_rfl,fun _=>by kernel_rfl⟩
def rZ (w:World) (re:Nat) (c:Cl):Prop:=At oV w re 0 (fI 3 c 0 0 0 0)∧At oV w re 9 (fI 8 ⟨0,0,0,0⟩ 0 0 0 (-1))∧re<w.heap.size
theorem rZ.grown {w w':World} {re:Nat} {c:Cl} {r:Option Nat} (h:rZ w re c) (hg:w.grownBy w' r) (hne:some re≠r):rZ w' re c:=⟨h.1.grown hg h.2.2 hne,h.2.1.grown hg h.2.2 hne,bJ h.2.2 hg.size⟩
theorem rZ.below {w w':World} {re:Nat} {c:Cl} {B:Nat} (h:rZ w re c) (hb:Below B w w') (hB:re<B):rZ w' re c:=⟨h.1.below hb hB,h.2.1.below hb hB,bJ h.2.2 hb.size⟩
structure K7 (w W:World) (pp bl kV kW n0 n1:Nat) (f0 f1:Bool) (c0 c1:Cl) (l:List (OC×OC×OC)):Prop where
 b:Below w.heap.size w W
 p0:At oV W pp 0 (GU kV n0 f0)
 p1:At oV W pp 2 (GU kW n1 f1)
 r0:rZ W kV c0
 r1:rZ W kW c1
 l:aP 3 ru W w.heap.size 79 (.slice (some ⟨bl,0,none⟩) 2 2) l
 lt:pp<w.heap.size∧kV<w.heap.size∧kW<w.heap.size
theorem K7.up {w W X:World} {pp bl kV kW n0 n1:Nat} {f0 f1:Bool} {c0 c1:Cl} {l:List (OC×OC×OC)} (h:K7 w W pp bl kV kW n0 n1 f0 f1 c0 c1 l) (hB:Below W.heap.size W X):K7 w X pp bl kV kW n0 n1 f0 f1 c0 c1 l:=by
 have hp:=bJ h.lt.1 h.b.size;exact ⟨h.b.trans (hB.mono h.b.size),h.p0.below hB hp,h.p1.below hB hp,h.r0.below hB h.r0.2.2,h.r1.below hB h.r1.2.2,h.l.below' hB,h.lt⟩
theorem K7.store {w W W':World} {pp bl kV kW n0 n1:Nat} {f0 f1:Bool} {c0 c1:Cl} {l l':List (OC×OC×OC)} (h:K7 w W pp bl kV kW n0 n1 f0 f1 c0 c1 l) (hG:W.grownBy W' (some bl)) (hO:aP 3 ru W' w.heap.size 79 (.slice (some ⟨bl,0,none⟩) 2 2) l'):K7 w W' pp bl kV kW n0 n1 f0 f1 c0 c1 l':=by
 have hbl:=(h.l.lt bl rfl).1;have hb:=h.b.size;obtain ⟨h1,h2,h3⟩:=h.lt;exact ⟨h.b.grown hG hb (fun k e=>by injection e with e;omega),h.p0.grown hG (by omega) (fun e=>by injection e with e;omega),h.p1.grown hG (by omega) (fun e=>by injection e with e;omega),h.r0.grown hG (fun e=>by injection e with e;omega),h.r1.grown hG (fun e=>by injection e with e;omega),hO,h.lt⟩
structure aci (w:World) (lb:Nat) (x0 x1:OC×OC×OC) (R0 R1:DF):Prop where
 lt:lb<w.heap.size
 a0:At oV w lb 0 (ru x0)
 a1:At oV w lb 3 (ru x1)
 d0:dm w (.agg #[x0.1.1,x0.2.1.1,x0.2.2.1]) R0
 d1:dm w (.agg #[x1.1.1,x1.2.1.1,x1.2.2.1]) R1
theorem Ru {W:World} {base:Nat} {e:TypeId} {bl:Nat} {x0 x1:OC×OC×OC} (h:aP 3 ru W base e (.slice (some ⟨bl,0,none⟩) 2 2) [x0,x1]):At oV W bl 0 (ru x0)∧At oV W bl 3 (ru x1):=by
 rcases h.2 with ⟨h0,_⟩ | ⟨g2,cap,cur,he,hbg,hc,hn,hm,hs,ht⟩
 ·cases h0
 ·injection he with he1 he2 GZ
  injection he1 with he1
  injection he1 with he1 _ _
  subst he1 GZ
  have hx:∀i,i<6→W.cell? ⟨bl,i,none⟩=((ru x0++ru x1).map oV)[i]?:=fun i hi=>by
   unfold World.cell?;rw [hc];have h1:cur.toList[i]?=(cur.toList.take (2 * 3))[i]?:=by rw [List.getElem?_take,if_pos hi]
   have h2:((List.flatMap ru [x0,x1]).map oV)=(ru x0++ru x1).map oV:=by simp [List.flatMap]
   rw [← h2,← ht];exact (qc0 (xs:=cur) (i:=i)).symm.trans h1
  refine ⟨fun i hi=> ?_,fun i hi=> ?_⟩
  ·have hi3:i<3:=hi;rw [oq,hx i (by omega),kJ,Jl hi]
  ·have hi3:i<3:=hi;rw [hx (3+i) (by omega),kJ,JV (by rw [oM];omega),oM,Nat.add_sub_cancel_left]
theorem Ga (w:World) (pp cap kV kW n0 n1:Nat) (f0 f1:Bool) (c0 c1:Cl) (R0 R1:DF) (h0:At oV w pp 0 (GU kV n0 f0)) (h1:At oV w pp 2 (GU kW n1 f1)) (Jy:pp<w.heap.size) (hr0:rZ w kV c0) (hr1:rZ w kW c1) (uR:R0.Ok) (lK:R1.Ok) (hB0:gD c0 R0) (hB1:gD c1 R1) (hT:gV w) (htl:1<w.heap.size):
  Calls Tryz.prog 201 #[.slice (some ⟨pp,0,none⟩) 2 cap] w fun e w'=>∃lb x0 x1,e= .returned (.tuple #[.slice (some ⟨lb,0,none⟩) 2 2, .int .i64 0])∧aci w' lb x0 x1 R0 R1∧Below w.heap.size w w':=by
 have HB0:=Lib.hid hB0;have HB1:=Lib.hid hB1;have HT:=Lib.hid hT;have GV:=Lib.hid uR;have sV:=Lib.hid lK;have iy:=Lib.hid htl;have hal:Below w.heap.size w (w.alloc (.cells #[.slice none 0 0, .slice none 0 0, .slice none 0 0, .slice none 0 0, .slice none 0 0, .slice none 0 0] 79)):=(ak _ _).alloc (af _) _;have hrow:Row oV (w.alloc (.cells #[.slice none 0 0, .slice none 0 0, .slice none 0 0, .slice none 0 0, .slice none 0 0, .slice none 0 0] 79)) w.heap.size 79 [on,on,on,on,on,on]:=Row.new _ _ rfl;have hS:K7 w (w.alloc (.cells #[.slice none 0 0, .slice none 0 0, .slice none 0 0, .slice none 0 0, .slice none 0 0, .slice none 0 0] 79)) pp w.heap.size kV kW n0 n1 f0 f1 c0 c1 [(sQ none 0 0 none 0 0 none 0 0),(sQ none 0 0 none 0 0 none 0 0)]:=⟨hal,h0.below hal Jy,h1.below hal Jy,hr0.below hal hr0.2.2,hr1.below hal hr1.2.2,⟨rfl, .inr ⟨w.heap.size,2,_,rfl,af _,hrow,by simp,by decide,rfl,rfl⟩⟩,Jy,hr0.2.2,hr1.2.2⟩
 clear hal hrow h0 h1 Jy hr0 hr1 hB0 hB1 hT htl uR lK;have hmk:∀w:World,(Instr.makeSlice 204 (.int .i64 2) (.int .i64 2)).run Tryz.prog w= .ok (.slice (some ⟨w.heap.size,0,none⟩) 2 2) (w.alloc (.cells #[.slice none 0 0, .slice none 0 0, .slice none 0 0, .slice none 0 0, .slice none 0 0, .slice none 0 0] 79)):=fun w=>by first | rfl | kernel_rfl
 go_enter Tryz.func201,Tryz.ntmps201;go_upto_region 6 with (fail);clear hmk;generalize (w.alloc (.cells #[.slice none 0 0, .slice none 0 0, .slice none 0 0, .slice none 0 0, .slice none 0 0, .slice none 0 0] 79))=W2 at hS ⊢;obtain ⟨bl,G5⟩:∃n,Hid (w.heap.size=n):=⟨_,Lib.hid rfl⟩
 have hS:K7 w W2 pp bl kV kW n0 n1 f0 f1 c0 c1 [(sQ none 0 0 none 0 0 none 0 0),(sQ none 0 0 none 0 0 none 0 0)]:=G5.out▸hS;rw [G5.out];go_wp2_with fail;refine wp_loop_rounds 3 ?_;refine aj (n:=2) ?_;have hn:=hS.p0;have hZ:Row oV (W2.alloc (.cells #[.slice none 0 0, .bool false] 106)) W2.heap.size 106 [on,⟨.bool false,rfl⟩]:=Row.new _ _ rfl
 go_wp2_with (first
  | ((with_reducible refine aN (f:=oV) (l:=GU kV n0 f0) (C:=ptA kV n0 f0) M8 (.tmp 24) ?_ ?_ pp 0 ?_ hn rfl ?_);rfl;rfl;rfl)
  | ((with_reducible refine aF (f:=oV) (l:=[on,⟨.bool false,rfl⟩]) (l':=GU kV n0 f0) (t:=106) (C:=ptA kV n0 f0) M8 (.tmp 6) (.tmp 25) ?_ ?_ W2.heap.size ?_ ?_ ?_ hZ ?_ bC ?_);rfl;rfl;rfl;rfl;rfl;rfl;(intro V0 hr2 hG2 hz2);(refine bM.back ?_)))
 have hB2:Below W2.heap.size W2 V0:=((ak _ _).alloc (af _) _).grown hG2 (by simp) (fun k e=>by injection e with e;rw [← e];exact af _);replace hS:=hS.up hB2;clear hn hZ hG2 hz2 hB2;generalize W2.heap.size=tn at hr2 ⊢;have q0:V0.cell? ⟨tn,0,none⟩=some (.slice (some ⟨kV,0,none⟩) 2 n0):=by rw [hr2.cell?];rfl
 refine bM.out ?_;go_wp2_with fail;refine (Cq V0 kV n0 c0 hS.r0.1 hS.r0.2.1 hS.r0.2.2).mono ?_;rintro e V0a ⟨rfl,hB3⟩;replace hS:=hS.up hB3;replace hr2:=hr2.below hB3 hr2.lt;clear hB3 q0;have q0:V0a.cell? ⟨tn,0,none⟩=some (.slice (some ⟨kV,0,none⟩) 2 n0):=by rw [hr2.cell?];rfl
 go_wp2_with fail;refine (HB0.out V0a kV n0 hS.r0.1 hS.r0.2.1 hS.r0.2.2 (HT.out.below hS.b iy.out) (bJ iy.out hS.b.size)).mono ?_;rintro e Gq ⟨v,rfl,⟨u,rfl,hu⟩,hB3⟩;replace hS:=hS.up hB3;clear hB3 hr2 q0;obtain ⟨d1,dk1,d2,dk2,d3,dk3,rfl⟩:=hu.parts;obtain ⟨eT,Oy⟩:∃n,Hid (R0.cls.length=n):=⟨_,Lib.hid rfl⟩
 obtain ⟨eP,O8⟩:∃n,Hid (R0.nx.length=n):=⟨_,Lib.hid rfl⟩
 obtain ⟨eO,OV⟩:∃n,Hid (R0.ac.length=n):=⟨_,Lib.hid rfl⟩
 rw [Oy.out,O8.out,OV.out] at hu ⊢;have hu0:=hu;clear hu;go_upto_region 13 with (fail);have hal:Below Gq.heap.size Gq (Gq.alloc (.cells #[.slice d1 eT dk1, .slice d2 eP dk2, .slice d3 eO dk3] 79)):=(ak _ _).alloc (af _) _;have hrw:Row oV (Gq.alloc (.cells #[.slice d1 eT dk1, .slice d2 eP dk2, .slice d3 eO dk3] 79)) Gq.heap.size 79 (bF d1 eT dk1 d2 eP dk2 d3 eO dk3):=Row.new _ _ rfl;replace hS:=hS.up hal;replace hu0:=hu0.below hal;clear hal;change Code.wp _ _ _ _ (Gq.alloc (.cells #[.slice d1 eT dk1, .slice d2 eP dk2, .slice d3 eO dk3] 79));generalize (Gq.alloc (.cells #[.slice d1 eT dk1, .slice d2 eP dk2, .slice d3 eO dk3] 79))=V0c at hS hrw hu0 ⊢;generalize Gq.heap.size=tm at hrw ⊢;have hO:=hS.l
 go_wp2_with (first
  | ((with_reducible refine aN (f:=oV) (l:=bF d1 eT dk1 d2 eP dk2 d3 eO dk3) (C:= #[.slice d1 eT dk1, .slice d2 eP dk2, .slice d3 eO dk3]) bN (.tmp 8) ?_ ?_ tm 0 ?_ hrw.at ?_ ?_);rfl;rfl;rfl;rfl)
  | ((with_reducible refine jh (C:= #[.slice d1 eT dk1, .slice d2 eP dk2, .slice d3 eO dk3]) (enc:=ru) bN oM (.tmp 44) (.tmp 43) ?_ ?_ bl 2 2 0 0 rfl ?_ (sQ d1 eT dk1 d2 eP dk2 d3 eO dk3) ?_ ?_ hO (by simp) ?_);rfl;rfl;rfl;rfl;rfl;(intro EB nE jk);(refine bM.back ?_)))
 have hnr:∀i v,V0c.cell? ⟨bl,i,none⟩=some v→uU V0c v:=fun i v hv=>by
  obtain ⟨x,hx,hv⟩:=Du hO rfl i v hv;simp only [nX,Dj,or_false,or_self] at hx;subst hx;rcases hv with rfl | rfl | rfl<;>exact xk _
 have JL:=hu0.Cw GV.out hnr jk;have Kz:=hS.store jk nE;clear hS hrw hu0 hO hnr jk nE;have hu0:=JL;clear JL;have hS:K7 w EB pp bl kV kW n0 n1 f0 f1 c0 c1 [(sQ d1 eT dk1 d2 eP dk2 d3 eO dk3),(sQ none 0 0 none 0 0 none 0 0)]:=Kz;clear Kz;refine bM.out ?_;go_wp2_with fail;refine aj (n:=1) ?_;have hn:=hS.p1;have hZ:Row oV (EB.alloc (.cells #[.slice none 0 0, .bool false] 106)) EB.heap.size 106 [on,⟨.bool false,rfl⟩]:=Row.new _ _ rfl
 go_wp2_with (first
  | ((with_reducible refine aN (f:=oV) (l:=GU kW n1 f1) (C:=ptA kW n1 f1) M8 (.tmp 24) ?_ ?_ pp 2 ?_ hn rfl ?_);rfl;rfl;rfl)
  | ((with_reducible refine aF (f:=oV) (l:=[on,⟨.bool false,rfl⟩]) (l':=GU kW n1 f1) (t:=106) (C:=ptA kW n1 f1) M8 (.tmp 6) (.tmp 25) ?_ ?_ EB.heap.size ?_ ?_ ?_ hZ ?_ bC ?_);rfl;rfl;rfl;rfl;rfl;rfl;(intro V1 hr2 hG2 hz2);(refine bM.back ?_)))
 have hB2:Below EB.heap.size EB V1:=((ak _ _).alloc (af _) _).grown hG2 (by simp) (fun k e=>by injection e with e;rw [← e];exact af _);replace hS:=hS.up hB2;replace hu0:=hu0.below hB2;clear hn hZ hG2 hz2 hB2;generalize EB.heap.size=tn at hr2 ⊢;have q0:V1.cell? ⟨tn,0,none⟩=some (.slice (some ⟨kW,0,none⟩) 2 n1):=by rw [hr2.cell?];rfl
 refine bM.out ?_;go_wp2_with fail;refine (Cq V1 kW n1 c1 hS.r1.1 hS.r1.2.1 hS.r1.2.2).mono ?_;rintro e V1a ⟨rfl,hB3⟩;replace hS:=hS.up hB3;replace hu0:=hu0.below hB3;replace hr2:=hr2.below hB3 hr2.lt;clear hB3 q0;have q0:V1a.cell? ⟨tn,0,none⟩=some (.slice (some ⟨kW,0,none⟩) 2 n1):=by rw [hr2.cell?];rfl
 go_wp2_with fail;refine (HB1.out V1a kW n1 hS.r1.1 hS.r1.2.1 hS.r1.2.2 (HT.out.below hS.b iy.out) (bJ iy.out hS.b.size)).mono ?_;rintro e Gp ⟨v,rfl,⟨u,rfl,hu⟩,hB3⟩;replace hS:=hS.up hB3;replace hu0:=hu0.below hB3;clear hB3 hr2 q0;obtain ⟨r1,iN,r2,iM,r3,iK,rfl⟩:=hu.parts;obtain ⟨ig,Nh⟩:∃n,Hid (R1.cls.length=n):=⟨_,Lib.hid rfl⟩
 obtain ⟨gu,Od⟩:∃n,Hid (R1.nx.length=n):=⟨_,Lib.hid rfl⟩
 obtain ⟨gX,OD⟩:∃n,Hid (R1.ac.length=n):=⟨_,Lib.hid rfl⟩
 rw [Nh.out,Od.out,OD.out] at hu ⊢;have hu1:=hu;clear hu;go_upto_region 13 with (fail);have hal:Below Gp.heap.size Gp (Gp.alloc (.cells #[.slice r1 ig iN, .slice r2 gu iM, .slice r3 gX iK] 79)):=(ak _ _).alloc (af _) _;have hrw:Row oV (Gp.alloc (.cells #[.slice r1 ig iN, .slice r2 gu iM, .slice r3 gX iK] 79)) Gp.heap.size 79 (bF r1 ig iN r2 gu iM r3 gX iK):=Row.new _ _ rfl;replace hS:=hS.up hal;replace hu0:=hu0.below hal;replace hu1:=hu1.below hal;clear hal;change Code.wp _ _ _ _ (Gp.alloc (.cells #[.slice r1 ig iN, .slice r2 gu iM, .slice r3 gX iK] 79));generalize (Gp.alloc (.cells #[.slice r1 ig iN, .slice r2 gu iM, .slice r3 gX iK] 79))=Wq at hS hrw hu0 hu1 ⊢;generalize Gp.heap.size=tm at hrw ⊢;have hO:=hS.l
 go_wp2_with (first
  | ((with_reducible refine aN (f:=oV) (l:=bF r1 ig iN r2 gu iM r3 gX iK) (C:= #[.slice r1 ig iN, .slice r2 gu iM, .slice r3 gX iK]) bN (.tmp 8) ?_ ?_ tm 0 ?_ hrw.at ?_ ?_);rfl;rfl;rfl;rfl)
  | ((with_reducible refine jh (C:= #[.slice r1 ig iN, .slice r2 gu iM, .slice r3 gX iK]) (enc:=ru) bN oM (.tmp 44) (.tmp 43) ?_ ?_ bl 2 2 1 3 rfl ?_ (sQ r1 ig iN r2 gu iM r3 gX iK) ?_ ?_ hO (by simp) ?_);rfl;rfl;rfl;rfl;rfl;(intro V1d nE jk);(refine bM.back ?_)))
 have hnr:∀i v,Wq.cell? ⟨bl,i,none⟩=some v→uU Wq v:=fun i v hv=>by
  obtain ⟨x,hx,hv⟩:=Du hO rfl i v hv;obtain ⟨n1,n2,n3⟩:=hu0.aav GV.out;simp only [nX,Dj,or_false] at hx;rcases hx with rfl | rfl
  ·rcases hv with rfl | rfl | rfl
   ·exact n1
   ·exact n2
   ·exact n3
  ·rcases hv with rfl | rfl | rfl<;>exact xk _
 have UM:=hu1.Cw sV.out hnr jk;have JL:=hu0.Cw GV.out hnr jk;have Kz:=hS.store jk nE;clear hS hrw hu0 hu1 hO hnr jk nE;have hS:K7 w V1d pp bl kV kW n0 n1 f0 f1 c0 c1 [(sQ d1 eT dk1 d2 eP dk2 d3 eO dk3),(sQ r1 ig iN r2 gu iM r3 gX iK)]:=Kz;clear Kz;refine bM.out ?_;go_wp2_with fail;refine aj (n:=0) ?_;go_wp2_with fail;go_ret2;have hl:=hS.l;exact ⟨bl,sQ d1 eT dk1 d2 eP dk2 d3 eO dk3,sQ r1 ig iN r2 gu iM r3 gX iK,rfl,⟨(hS.l.lt bl rfl).2,(Ru hl).1,(Ru hl).2,JL,UM⟩,G5.out▸hS.b⟩
theorem TY (w:World) (pp cap kV kW n0 n1:Nat) (f0 f1:Bool) (c0 c1:Cl) (R0 R1:DF) (h0:At oV w pp 0 (GU kV n0 f0)) (h1:At oV w pp 2 (GU kW n1 f1)) (Jy:pp<w.heap.size) (hr0:rZ w kV c0) (hr1:rZ w kW c1) (uR:R0.Ok) (lK:R1.Ok) (hB0:gD c0 R0) (hB1:gD c1 R1) (hT:gV w) (htl:1<w.heap.size):
  Calls Tryz.prog 149 #[.slice (some ⟨pp,0,none⟩) 2 cap] w fun e w'=>e= .returned (.int .i64 0)∧Below w.heap.size w w':=by
 have H:=Lib.hid (Ga w pp cap kV kW n0 n1 f0 f1 c0 c1 R0 R1 h0 h1 Jy hr0 hr1 uR lK hB0 hB1 hT htl);clear h0 h1 Jy hr0 hr1 uR lK hB0 hB1 hT htl;go_enter Tryz.func149,Tryz.ntmps149;go_wp2_with fail;refine H.out.mono ?_;rintro e W1 ⟨lb,x0,x1,rfl,_,hB⟩;go_wp2_with fail;go_ret;exact ⟨rfl,hB⟩
def mq (c:Cl):DF:=⟨[⟨~~~c.a,~~~c.b,~~~c.c,~~~c.d⟩,c],[[1,0],[1,1]],[true,false]⟩
def isB (c:Cl) (R:DF):Bool:=match (nI c).star with
 | .ok S=>(match eF.canon.cat S with
  | .ok T=>decide (T.cls=R.cls) && (decide (T.nx=R.nx) && decide (T.ac=R.ac))
  | .error _=>false)
 | .error _=>false
theorem EZ {c:Cl} {R:DF} (hc:c.Let) (hn:(nI c).nx.length≤64) (h:isB c R=true):R.Ok∧gD c R:=by
 unfold isB at h;cases hS:(nI c).star with
 | error e=>rw [hS] at h;cases h
 | ok S=>
  rw [hS] at h;simp only at h;cases hR:eF.canon.cat S with
  | error e=>rw [hR] at h;cases h
  | ok T=>
   rw [hR] at h;simp only [cB,decide_eq_true_eq] at h;obtain ⟨h1,h2,h3⟩:=h
   have hT:T=R:=by
    cases T;cases R;simp only at h1 h2 h3;subst h1 h2 h3;rfl
   subst hT;have hO:=(Io (y7 DX) hR).toOk;refine ⟨hO,fun w re cap h0 h1 hre hT htl=> ?_⟩;refine Gb w re cap h0 h1 hre hc (Tj hc hn (UB _) (y7 DX) hS hR (by decide)) hO (fun W hB=> ?_) hT htl;have aa8:=bJ hre hB.size;exact Cq W re cap c (h0.below hB hre) (h1.below hB hre) aa8
theorem Nl {c:Cl} (h:yw c false=true):(nI c).nx.length≤64:=by
 unfold yw at h;rw [cB,decide_eq_true_eq] at h;exact h.1
end
section
theorem afr:isB zR (mq zR)=true:=by decide+kernel
theorem Ky:(mq zR).Ok∧gD zR (mq zR):=EZ abx (Nl aaL) afr
theorem ae5:isB Fq (mq Fq)=true:=by decide+kernel
theorem I9:(mq Fq).Ok∧gD Fq (mq Fq):=EZ aeU (Nl evB) ae5
theorem agq:isB wF (mq wF)=true:=by decide+kernel
theorem vz:(mq wF).Ok∧gD wF (mq wF):=EZ acN (Nl evC) agq
end
end Go.Proofs.YtncnfncglacheaaGreatDoor
