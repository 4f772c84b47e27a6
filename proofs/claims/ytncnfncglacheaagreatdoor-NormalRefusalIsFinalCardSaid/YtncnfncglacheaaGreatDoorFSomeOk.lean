/- Part of a proof. -/
import Derived.Test.YtncnfncglacheaaGreatDoorFSomeV
import Derived.Test.YtncnfncglacheaaGreatDoorFSomeVB
import Derived.Test.YtncnfncglacheaaGreatDoorFSomeVC
set_option linter.all false
set_option maxRecDepth 100000
set_option maxHeartbeats 64000000
namespace Go.Proofs.YtncnfncglacheaaGreatDoor
section
open Go Go.RowKit Mem
def gM (c:Cl) (R:DF):Prop:=∀(w:World) (re cap:Nat),At oV w re 0 (fU 3 c 0 0 0 0)→At oV w re 9 (fU 8 ⟨0,0,0,0⟩ 0 0 0 (-1))→re<w.heap.size→iw w→1<w.heap.size→
  Calls Tryz.prog 62 #[.slice (some ⟨re,0,none⟩) 2 cap] w fun e w'=>∃v,e= .returned v∧fQ w' v (.ok R)∧Below w.heap.size w w'
theorem abU {c:Cl} (hc:c.Let) (hs:yT c false=true):∃R:DF,R.Ok∧gM c R:=by
 obtain ⟨R,hR,hO⟩:=ZE EH hc hs;refine ⟨R,hO,fun w re cap h0 h1 hre hT htl=> ?_⟩;refine Gi w re cap h0 h1 hre hc hR hO (fun W hB=> ?_) hT htl;have aaZ:=bO hre hB.size;exact DL W re cap c (h0.below hB hre) (h1.below hB hre) aaZ
theorem adn:∃R:DF,R.Ok∧gM Ae R:=abU abw ach
def H8 (re n:Nat) (f:Bool):List OC:=[⟨.slice (some ⟨re,0,none⟩) 2 n,rfl⟩,⟨.bool f,rfl⟩]
def ptA (re n:Nat) (f:Bool):Array Value:= #[.slice (some ⟨re,0,none⟩) 2 n, .bool f]
theorem PG:bU Tryz.prog 106 2:=⟨fun _=>by kernel_rfl,fun _=>by kernel_rfl⟩
def sP (w:World) (re:Nat) (c:Cl):Prop:=At oV w re 0 (fU 3 c 0 0 0 0)∧At oV w re 9 (fU 8 ⟨0,0,0,0⟩ 0 0 0 (-1))∧re<w.heap.size
theorem sP.grown {w w':World} {re:Nat} {c:Cl} {r:Option Nat} (h:sP w re c) (hg:w.grownBy w' r) (hne:some re≠r):sP w' re c:=⟨h.1.grown hg h.2.2 hne,h.2.1.grown hg h.2.2 hne,bO h.2.2 hg.size⟩
theorem sP.below {w w':World} {re:Nat} {c:Cl} {B:Nat} (h:sP w re c) (hb:Below B w w') (hB:re<B):sP w' re c:=⟨h.1.below hb hB,h.2.1.below hb hB,bO h.2.2 hb.size⟩
structure ML (w W:World) (pp bl lg lu n0 n1:Nat) (f0 f1:Bool) (c0 c1:Cl) (l:List (OC×OC×OC)):Prop where
 b:Below w.heap.size w W
 p0:At oV W pp 0 (H8 lg n0 f0)
 p1:At oV W pp 2 (H8 lu n1 f1)
 r0:sP W lg c0
 r1:sP W lu c1
 l:aT 3 sS W w.heap.size 79 (.slice (some ⟨bl,0,none⟩) 2 2) l
 lt:pp<w.heap.size∧lg<w.heap.size∧lu<w.heap.size
theorem ML.up {w W X:World} {pp bl lg lu n0 n1:Nat} {f0 f1:Bool} {c0 c1:Cl} {l:List (OC×OC×OC)} (h:ML w W pp bl lg lu n0 n1 f0 f1 c0 c1 l) (hB:Below W.heap.size W X):ML w X pp bl lg lu n0 n1 f0 f1 c0 c1 l:=by
 have hp:=bO h.lt.1 h.b.size;exact ⟨h.b.trans (hB.mono h.b.size),h.p0.below hB hp,h.p1.below hB hp,h.r0.below hB h.r0.2.2,h.r1.below hB h.r1.2.2,h.l.below' hB,h.lt⟩
theorem ML.store {w W W':World} {pp bl lg lu n0 n1:Nat} {f0 f1:Bool} {c0 c1:Cl} {l l':List (OC×OC×OC)} (h:ML w W pp bl lg lu n0 n1 f0 f1 c0 c1 l) (hG:W.grownBy W' (some bl)) (hO:aT 3 sS W' w.heap.size 79 (.slice (some ⟨bl,0,none⟩) 2 2) l'):ML w W' pp bl lg lu n0 n1 f0 f1 c0 c1 l':=by
 have hbl:=(h.l.lt bl rfl).1;have hb:=h.b.size;obtain ⟨h1,h2,h3⟩:=h.lt;exact ⟨h.b.grown hG hb (fun k e=>by injection e with e;omega),h.p0.grown hG (by omega) (fun e=>by injection e with e;omega),h.p1.grown hG (by omega) (fun e=>by injection e with e;omega),h.r0.grown hG (fun e=>by injection e with e;omega),h.r1.grown hG (fun e=>by injection e with e;omega),hO,h.lt⟩
structure adi (w:World) (lb:Nat) (x0 x1:OC×OC×OC) (R0 R1:DF):Prop where
 lt:lb<w.heap.size
 a0:At oV w lb 0 (sS x0)
 a1:At oV w lb 3 (sS x1)
 d0:dA w (.agg #[x0.1.1,x0.2.1.1,x0.2.2.1]) R0
 d1:dA w (.agg #[x1.1.1,x1.2.1.1,x1.2.2.1]) R1
theorem Rt {W:World} {base:Nat} {e:TypeId} {bl:Nat} {x0 x1:OC×OC×OC} (h:aT 3 sS W base e (.slice (some ⟨bl,0,none⟩) 2 2) [x0,x1]):At oV W bl 0 (sS x0)∧At oV W bl 3 (sS x1):=by
 rcases h.2 with ⟨h0,_⟩ | ⟨g2,cap,cur,he,hbg,hc,hn,hm,hs,ht⟩
 ·cases h0
 ·injection he with he1 he2 GZ
  injection he1 with he1
  injection he1 with he1 _ _
  subst he1 GZ
  have hx:∀i,i<6→W.cell? ⟨bl,i,none⟩=((sS x0++sS x1).map oV)[i]?:=fun i hi=>by
   unfold World.cell?;rw [hc];have h1:cur.toList[i]?=(cur.toList.take (2 * 3))[i]?:=by rw [List.getElem?_take,aC hi]
   have h2:((List.flatMap sS [x0,x1]).map oV)=(sS x0++sS x1).map oV:=by simp [List.flatMap]
   rw [← h2,← ht];exact (qdx (xs:=cur) (i:=i)).symm.trans h1
  refine ⟨fun i hi=> ?_,fun i hi=> ?_⟩
  ·have hi3:i<3:=hi;rw [nR,hx i (by omega),jS,Ig hi]
  ·have hi3:i<3:=hi;rw [hx (3+i) (by omega),jS,Kk (by rw [pO];omega),pO,Nat.add_sub_cancel_left]
theorem F6 (w:World) (pp cap lg lu n0 n1:Nat) (f0 f1:Bool) (c0 c1:Cl) (R0 R1:DF) (h0:At oV w pp 0 (H8 lg n0 f0)) (h1:At oV w pp 2 (H8 lu n1 f1)) (Jz:pp<w.heap.size) (hr0:sP w lg c0) (hr1:sP w lu c1) (vz:R0.Ok) (mE:R1.Ok) (hB0:gM c0 R0) (hB1:gM c1 R1) (hT:iw w) (htl:1<w.heap.size):
  Calls Tryz.prog 201 #[.slice (some ⟨pp,0,none⟩) 2 cap] w fun e w'=>∃lb x0 x1,e= .returned (.tuple #[.slice (some ⟨lb,0,none⟩) 2 2, .int .i64 0])∧adi w' lb x0 x1 R0 R1∧Below w.heap.size w w':=by
 have HB0:=af hB0;have HB1:=af hB1;have HT:=af hT;have Ie:=af vz;have tJ:=af mE;have iL:=af htl;have hal:Below w.heap.size w (w.alloc (.cells #[.slice none 0 0, .slice none 0 0, .slice none 0 0, .slice none 0 0, .slice none 0 0, .slice none 0 0] 79)):=(au _ _).alloc (ah _) _;have hrow:Row oV (w.alloc (.cells #[.slice none 0 0, .slice none 0 0, .slice none 0 0, .slice none 0 0, .slice none 0 0, .slice none 0 0] 79)) w.heap.size 79 [on,on,on,on,on,on]:=Row.new _ _ rfl;have hS:ML w (w.alloc (.cells #[.slice none 0 0, .slice none 0 0, .slice none 0 0, .slice none 0 0, .slice none 0 0, .slice none 0 0] 79)) pp w.heap.size lg lu n0 n1 f0 f1 c0 c1 [(tV none 0 0 none 0 0 none 0 0),(tV none 0 0 none 0 0 none 0 0)]:=⟨hal,h0.below hal Jz,h1.below hal Jz,hr0.below hal hr0.2.2,hr1.below hal hr1.2.2,⟨rfl, .inr ⟨w.heap.size,2,_,rfl,ah _,hrow,by simp,by decide,rfl,rfl⟩⟩,Jz,hr0.2.2,hr1.2.2⟩
 clear hal hrow h0 h1 Jz hr0 hr1 hB0 hB1 hT htl vz mE;have hmk:∀w:World,(Instr.makeSlice 204 (.int .i64 2) (.int .i64 2)).run Tryz.prog w= .ok (.slice (some ⟨w.heap.size,0,none⟩) 2 2) (w.alloc (.cells #[.slice none 0 0, .slice none 0 0, .slice none 0 0, .slice none 0 0, .slice none 0 0, .slice none 0 0] 79)):=fun w=>by first | rfl | kernel_rfl
 go_enter Tryz.func201,Tryz.ntmps201;go_upto_region 6 with (fail);clear hmk;generalize (w.alloc (.cells #[.slice none 0 0, .slice none 0 0, .slice none 0 0, .slice none 0 0, .slice none 0 0, .slice none 0 0] 79))=W2 at hS ⊢;obtain ⟨bl,yV⟩:∃n,Hid (w.heap.size=n):=⟨_,af rfl⟩
 have hS:ML w W2 pp bl lg lu n0 n1 f0 f1 c0 c1 [(tV none 0 0 none 0 0 none 0 0),(tV none 0 0 none 0 0 none 0 0)]:=yV.out▸hS;rw [yV.out];go_wp2_with fail;refine uT 3 ?_;refine ak (n:=2) ?_;have hn:=hS.p0;have hZ:Row oV (W2.alloc (.cells #[.slice none 0 0, .bool false] 106)) W2.heap.size 106 [on,⟨.bool false,rfl⟩]:=Row.new _ _ rfl
 go_wp2_with (first
  | ((with_reducible refine aU (f:=oV) (l:=H8 lg n0 f0) (C:=ptA lg n0 f0) PG (.tmp 24) ?_ ?_ pp 0 ?_ hn rfl ?_);rfl;rfl;rfl)
  | ((with_reducible refine aK (f:=oV) (l:=[on,⟨.bool false,rfl⟩]) (l':=H8 lg n0 f0) (t:=106) (C:=ptA lg n0 f0) PG (.tmp 6) (.tmp 25) ?_ ?_ W2.heap.size ?_ ?_ ?_ hZ ?_ bF ?_);rfl;rfl;rfl;rfl;rfl;rfl;(intro V0 hr2 hG2 hz2);(refine bN.back ?_)))
 have hB2:Below W2.heap.size W2 V0:=((au _ _).alloc (ah _) _).grown hG2 (by simp) (fun k e=>by injection e with e;rw [← e];exact ah _);replace hS:=hS.up hB2;clear hn hZ hG2 hz2 hB2;generalize W2.heap.size=tn at hr2 ⊢;have q0:V0.cell? ⟨tn,0,none⟩=some (.slice (some ⟨lg,0,none⟩) 2 n0):=by rw [hr2.cell?];rfl
 refine bN.out ?_;go_wp2_with fail;refine (DL V0 lg n0 c0 hS.r0.1 hS.r0.2.1 hS.r0.2.2).mono ?_;rintro e V0a ⟨rfl,hB3⟩;replace hS:=hS.up hB3;replace hr2:=hr2.below hB3 hr2.lt;clear hB3 q0;have q0:V0a.cell? ⟨tn,0,none⟩=some (.slice (some ⟨lg,0,none⟩) 2 n0):=by rw [hr2.cell?];rfl
 go_wp2_with fail;refine (HB0.out V0a lg n0 hS.r0.1 hS.r0.2.1 hS.r0.2.2 (HT.out.below hS.b iL.out) (bO iL.out hS.b.size)).mono ?_;rintro e Hf ⟨v,rfl,⟨u,rfl,hu⟩,hB3⟩;replace hS:=hS.up hB3;clear hB3 hr2 q0;obtain ⟨d1,dk1,d2,dk2,d3,dk3,rfl⟩:=hu.parts;obtain ⟨eZ,P9⟩:∃n,Hid (R0.cls.length=n):=⟨_,af rfl⟩
 obtain ⟨eY,Pw⟩:∃n,Hid (R0.nx.length=n):=⟨_,af rfl⟩
 obtain ⟨fe,Pe⟩:∃n,Hid (R0.ac.length=n):=⟨_,af rfl⟩
 rw [P9.out,Pw.out,Pe.out] at hu ⊢;have hu0:=hu;clear hu;go_upto_region 13 with (fail);have hal:Below Hf.heap.size Hf (Hf.alloc (.cells #[.slice d1 eZ dk1, .slice d2 eY dk2, .slice d3 fe dk3] 79)):=(au _ _).alloc (ah _) _;have hrw:Row oV (Hf.alloc (.cells #[.slice d1 eZ dk1, .slice d2 eY dk2, .slice d3 fe dk3] 79)) Hf.heap.size 79 (bL d1 eZ dk1 d2 eY dk2 d3 fe dk3):=Row.new _ _ rfl;replace hS:=hS.up hal;replace hu0:=hu0.below hal;clear hal;change Code.wp _ _ _ _ (Hf.alloc (.cells #[.slice d1 eZ dk1, .slice d2 eY dk2, .slice d3 fe dk3] 79));generalize (Hf.alloc (.cells #[.slice d1 eZ dk1, .slice d2 eY dk2, .slice d3 fe dk3] 79))=V0c at hS hrw hu0 ⊢;generalize Hf.heap.size=tm at hrw ⊢;have hO:=hS.l
 go_wp2_with (first
  | ((with_reducible refine aU (f:=oV) (l:=bL d1 eZ dk1 d2 eY dk2 d3 fe dk3) (C:= #[.slice d1 eZ dk1, .slice d2 eY dk2, .slice d3 fe dk3]) bQ (.tmp 8) ?_ ?_ tm 0 ?_ hrw.at ?_ ?_);rfl;rfl;rfl;rfl)
  | ((with_reducible refine jA (C:= #[.slice d1 eZ dk1, .slice d2 eY dk2, .slice d3 fe dk3]) (enc:=sS) bQ pO (.tmp 44) (.tmp 43) ?_ ?_ bl 2 2 0 0 rfl ?_ (tV d1 eZ dk1 d2 eY dk2 d3 fe dk3) ?_ ?_ hO (by simp) ?_);rfl;rfl;rfl;rfl;rfl;(intro Fw nW jJ);(refine bN.back ?_)))
 have hnr:∀i v,V0c.cell? ⟨bl,i,none⟩=some v→vB V0c v:=fun i v hv=>by
  obtain ⟨x,hx,hv⟩:=Cq hO rfl i v hv;simp only [nA,Bp,BJ,or_self] at hx;subst hx;rcases hv with rfl | rfl | rfl<;>exact xO _
 have KZ:=hu0.DZ Ie.out hnr jJ;have KG:=hS.store jJ nW;clear hS hrw hu0 hO hnr jJ nW;have hu0:=KZ;clear KZ;have hS:ML w Fw pp bl lg lu n0 n1 f0 f1 c0 c1 [(tV d1 eZ dk1 d2 eY dk2 d3 fe dk3),(tV none 0 0 none 0 0 none 0 0)]:=KG;clear KG;refine bN.out ?_;go_wp2_with fail;refine ak (n:=1) ?_;have hn:=hS.p1;have hZ:Row oV (Fw.alloc (.cells #[.slice none 0 0, .bool false] 106)) Fw.heap.size 106 [on,⟨.bool false,rfl⟩]:=Row.new _ _ rfl
 go_wp2_with (first
  | ((with_reducible refine aU (f:=oV) (l:=H8 lu n1 f1) (C:=ptA lu n1 f1) PG (.tmp 24) ?_ ?_ pp 2 ?_ hn rfl ?_);rfl;rfl;rfl)
  | ((with_reducible refine aK (f:=oV) (l:=[on,⟨.bool false,rfl⟩]) (l':=H8 lu n1 f1) (t:=106) (C:=ptA lu n1 f1) PG (.tmp 6) (.tmp 25) ?_ ?_ Fw.heap.size ?_ ?_ ?_ hZ ?_ bF ?_);rfl;rfl;rfl;rfl;rfl;rfl;(intro V1 hr2 hG2 hz2);(refine bN.back ?_)))
 have hB2:Below Fw.heap.size Fw V1:=((au _ _).alloc (ah _) _).grown hG2 (by simp) (fun k e=>by injection e with e;rw [← e];exact ah _);replace hS:=hS.up hB2;replace hu0:=hu0.below hB2;clear hn hZ hG2 hz2 hB2;generalize Fw.heap.size=tn at hr2 ⊢;have q0:V1.cell? ⟨tn,0,none⟩=some (.slice (some ⟨lu,0,none⟩) 2 n1):=by rw [hr2.cell?];rfl
 refine bN.out ?_;go_wp2_with fail;refine (DL V1 lu n1 c1 hS.r1.1 hS.r1.2.1 hS.r1.2.2).mono ?_;rintro e V1a ⟨rfl,hB3⟩;replace hS:=hS.up hB3;replace hu0:=hu0.below hB3;replace hr2:=hr2.below hB3 hr2.lt;clear hB3 q0;have q0:V1a.cell? ⟨tn,0,none⟩=some (.slice (some ⟨lu,0,none⟩) 2 n1):=by rw [hr2.cell?];rfl
 go_wp2_with fail;refine (HB1.out V1a lu n1 hS.r1.1 hS.r1.2.1 hS.r1.2.2 (HT.out.below hS.b iL.out) (bO iL.out hS.b.size)).mono ?_;rintro e Ih ⟨v,rfl,⟨u,rfl,hu⟩,hB3⟩;replace hS:=hS.up hB3;replace hu0:=hu0.below hB3;clear hB3 hr2 q0;obtain ⟨r1,ja,r2,iW,r3,iX,rfl⟩:=hu.parts;obtain ⟨iD,PX⟩:∃n,Hid (R1.cls.length=n):=⟨_,af rfl⟩
 obtain ⟨gF,Py⟩:∃n,Hid (R1.nx.length=n):=⟨_,af rfl⟩
 obtain ⟨iF,Ow⟩:∃n,Hid (R1.ac.length=n):=⟨_,af rfl⟩
 rw [PX.out,Py.out,Ow.out] at hu ⊢;have hu1:=hu;clear hu;go_upto_region 13 with (fail);have hal:Below Ih.heap.size Ih (Ih.alloc (.cells #[.slice r1 iD ja, .slice r2 gF iW, .slice r3 iF iX] 79)):=(au _ _).alloc (ah _) _;have hrw:Row oV (Ih.alloc (.cells #[.slice r1 iD ja, .slice r2 gF iW, .slice r3 iF iX] 79)) Ih.heap.size 79 (bL r1 iD ja r2 gF iW r3 iF iX):=Row.new _ _ rfl;replace hS:=hS.up hal;replace hu0:=hu0.below hal;replace hu1:=hu1.below hal;clear hal;change Code.wp _ _ _ _ (Ih.alloc (.cells #[.slice r1 iD ja, .slice r2 gF iW, .slice r3 iF iX] 79));generalize (Ih.alloc (.cells #[.slice r1 iD ja, .slice r2 gF iW, .slice r3 iF iX] 79))=YP at hS hrw hu0 hu1 ⊢;generalize Ih.heap.size=tm at hrw ⊢;have hO:=hS.l
 go_wp2_with (first
  | ((with_reducible refine aU (f:=oV) (l:=bL r1 iD ja r2 gF iW r3 iF iX) (C:= #[.slice r1 iD ja, .slice r2 gF iW, .slice r3 iF iX]) bQ (.tmp 8) ?_ ?_ tm 0 ?_ hrw.at ?_ ?_);rfl;rfl;rfl;rfl)
  | ((with_reducible refine jA (C:= #[.slice r1 iD ja, .slice r2 gF iW, .slice r3 iF iX]) (enc:=sS) bQ pO (.tmp 44) (.tmp 43) ?_ ?_ bl 2 2 1 3 rfl ?_ (tV r1 iD ja r2 gF iW r3 iF iX) ?_ ?_ hO (by simp) ?_);rfl;rfl;rfl;rfl;rfl;(intro V1d nW jJ);(refine bN.back ?_)))
 have hnr:∀i v,YP.cell? ⟨bl,i,none⟩=some v→vB YP v:=fun i v hv=>by
  obtain ⟨x,hx,hv⟩:=Cq hO rfl i v hv;obtain ⟨n1,n2,n3⟩:=hu0.abJ Ie.out;simp only [nA,Bp,BJ] at hx;rcases hx with rfl | rfl
  ·rcases hv with rfl | rfl | rfl
   ·exact n1
   ·exact n2
   ·exact n3
  ·rcases hv with rfl | rfl | rfl<;>exact xO _
 have V7:=hu1.DZ tJ.out hnr jJ;have KZ:=hu0.DZ Ie.out hnr jJ;have KG:=hS.store jJ nW;clear hS hrw hu0 hu1 hO hnr jJ nW;have hS:ML w V1d pp bl lg lu n0 n1 f0 f1 c0 c1 [(tV d1 eZ dk1 d2 eY dk2 d3 fe dk3),(tV r1 iD ja r2 gF iW r3 iF iX)]:=KG;clear KG;refine bN.out ?_;go_wp2_with fail;refine ak (n:=0) ?_;go_wp2_with fail;go_ret2;have hl:=hS.l;exact ⟨bl,tV d1 eZ dk1 d2 eY dk2 d3 fe dk3,tV r1 iD ja r2 gF iW r3 iF iX,rfl,⟨(hS.l.lt bl rfl).2,(Rt hl).1,(Rt hl).2,KZ,V7⟩,yV.out▸hS.b⟩
theorem UB (w:World) (pp cap lg lu n0 n1:Nat) (f0 f1:Bool) (c0 c1:Cl) (R0 R1:DF) (h0:At oV w pp 0 (H8 lg n0 f0)) (h1:At oV w pp 2 (H8 lu n1 f1)) (Jz:pp<w.heap.size) (hr0:sP w lg c0) (hr1:sP w lu c1) (vz:R0.Ok) (mE:R1.Ok) (hB0:gM c0 R0) (hB1:gM c1 R1) (hT:iw w) (htl:1<w.heap.size):
  Calls Tryz.prog 149 #[.slice (some ⟨pp,0,none⟩) 2 cap] w fun e w'=>e= .returned (.int .i64 0)∧Below w.heap.size w w':=by
 have H:=af (F6 w pp cap lg lu n0 n1 f0 f1 c0 c1 R0 R1 h0 h1 Jz hr0 hr1 vz mE hB0 hB1 hT htl);clear h0 h1 Jz hr0 hr1 vz mE hB0 hB1 hT htl;go_enter Tryz.func149,Tryz.ntmps149;go_wp2_with fail;refine H.out.mono ?_;rintro e W1 ⟨lb,x0,x1,rfl,_,hB⟩;go_wp2_with fail;go_ret;exact ⟨rfl,hB⟩
def nD (c:Cl):DF:=⟨[⟨~~~c.a,~~~c.b,~~~c.c,~~~c.d⟩,c],[[1,0],[1,1]],[true,false]⟩
def isB (c:Cl) (R:DF):Bool:=match (nZ c).star with
 | .ok S=>(match eU.canon.cat S with
  | .ok T=>decide (T.cls=R.cls) && (decide (T.nx=R.nx) && decide (T.ac=R.ac))
  | .error _=>false)
 | .error _=>false
theorem FD {c:Cl} {R:DF} (hc:c.Let) (hn:(nZ c).nx.length≤64) (h:isB c R=true):R.Ok∧gM c R:=by
 unfold isB at h;cases hS:(nZ c).star with
 | error e=>rw [hS] at h;cases h
 | ok S=>
  rw [hS] at h;simp only at h;cases hR:eU.canon.cat S with
  | error e=>rw [hR] at h;cases h
  | ok T=>
   rw [hR] at h;simp only [cZ,tT] at h;obtain ⟨h1,h2,h3⟩:=h
   have hT:T=R:=by
    cases T;cases R;simp only at h1 h2 h3;subst h1 h2 h3;rfl
   subst hT;have hO:=(Ko (zh EH) hR).toOk;refine ⟨hO,fun w re cap h0 h1 hre hT htl=> ?_⟩;refine Gi w re cap h0 h1 hre hc (Um hc hn (VT _) (zh EH) hS hR (by decide)) hO (fun W hB=> ?_) hT htl;have aaZ:=bO hre hB.size;exact DL W re cap c (h0.below hB hre) (h1.below hB hre) aaZ
theorem Qd {c:Cl} (h:yT c false=true):(nZ c).nx.length≤64:=by
 unfold yT at h;rw [cZ,tT] at h;exact h.1
end
section
theorem agU:isB Ae (nD Ae)=true:=by decide+kernel
theorem I7:(nD Ae).Ok∧gM Ae (nD Ae):=FD abw (Qd ach) agU
theorem agk:isB GH (nD GH)=true:=by decide+kernel
theorem K8:(nD GH).Ok∧gM GH (nD GH):=FD afv (Qd evB) agk
theorem af1:isB xK (nD xK)=true:=by decide+kernel
theorem wm:(nD xK).Ok∧gM xK (nD xK):=FD acZ (Qd evC) af1
end
end Go.Proofs.YtncnfncglacheaaGreatDoor
