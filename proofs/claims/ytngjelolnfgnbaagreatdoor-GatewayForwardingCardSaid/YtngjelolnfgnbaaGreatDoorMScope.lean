/- Part of a proof. -/
import Derived.Test.YtngjelolnfgnbaaGreatDoorMNWrite
import Derived.Test.YtngjelolnfgnbaaGreatDoorMRangeQ
set_option linter.all false
set_option maxRecDepth 100000
set_option maxHeartbeats 64000000
namespace Go.Proofs.YtngjelolnfgnbaaGreatDoor
section
open Go Go.RowKit Mem
namespace Sc
abbrev Wd:=List UInt8
def Dj (al:List UInt8) (ws:List Wd):List Wd:=ws.flatMap fun w=>al.map fun b=>w++[b]
def lvl (al:List UInt8):Nat→List Wd
 | 0=>[[]]
 | n+1=>Dj al (lvl al n)
def upTo (al:List UInt8) (n:Nat):List Wd:=(List.range n).flatMap (lvl al)
end Sc
def jN (D:Nat→Prop) (A B:World):Prop:=A.heap.size≤B.heap.size∧∀r o,¬D r→A.heap[r]?=some o→o.isCells=true→B.heap[r]?=some o
theorem jN.trans {D:Nat→Prop} {A B C:World} (h:jN D A B) (k:jN D B C):jN D A C:=⟨gp h.1 k.1,fun r o hd ho hc=>k.2 r o hd (h.2 r o hd ho hc) hc⟩
theorem jN.row {D:Nat→Prop} {A B:World} {α:Type} {f:α→Value} {b:Nat} {t:TypeId} {l:List α} (h:jN D A B) (hr:Row f A b t l) (hd:¬D b):Row f B b t l:=h.2 b _ hd hr rfl
theorem jN.own {D:Nat→Prop} {A B:World} {α:Type} {f:α→Value} {base:Nat} {e:TypeId} {v:Value} {l:List α} (h:jN D A B) (ho:Mem.Own f A base e v l) (hd:∀r,base≤r→¬D r):Mem.Own f B base e v l:=by
 refine ⟨ho.1,?_⟩;rcases ho.2 with hn | ⟨g,cap,cur,rfl,hbg,hc,rest⟩
 ·exact .inl hn
 ·exact .inr ⟨g,cap,cur,rfl,hbg,h.2 g _ (hd g hbg) hc rfl,rest⟩
theorem vL {w:World} {α β:Type} {f:α→Value} {g:β→Value} {b1 b2:Nat} {e1 e2:TypeId} {v1 v2:Value} {l1:List α} {l2:List β} (h1:Mem.Own f w b1 e1 v1 l1) (h2:Mem.Own g w b2 e2 v2 l2) (hne:e1≠e2):∀k,v1.ownBlock=some k→some k≠v2.ownBlock:=by
 intro k hk e;rcases h1.2 with ⟨rfl,_⟩ | ⟨g1,c1,F5,rfl,_,hc1,_⟩
 ·cases hk
 ·rcases h2.2 with ⟨rfl,_⟩ | ⟨g2,c2,JK,rfl,_,hc2,_⟩
  ·cases e
  ·cases hk;injection e with e
   simp only at e;subst e;rw [hc1] at hc2;injection hc2 with hc2
   injection hc2 with _ hc2
   exact hne hc2
def j6 (W:World) (base:Nat) (v:Value) (ws:List Sc.Wd):Prop:=
 ∃vals:List OC,vals.length=ws.length∧Mem.Own oV W base 31 v vals∧∀i (h:i<vals.length) (h2:i<ws.length),Mem.Own bg W base 5 (oV vals[i]) ws[i]
theorem j6.slice {W:World} {base:Nat} {v:Value} {ws:List Sc.Wd} (h:j6 W base v ws):∃p cap,v= .slice p ws.length cap:=by
 obtain ⟨vals,h1,h2,_⟩:=h;obtain ⟨p,cap,rfl⟩:=h2.slice;exact ⟨p,cap,by rw [h1]⟩
theorem j6.keep {D:Nat→Prop} {A B:World} {base:Nat} {v:Value} {ws:List Sc.Wd} (h:j6 A base v ws) (hk:jN D A B) (hd:∀r,base≤r→¬D r):j6 B base v ws:=by
 obtain ⟨vals,h1,h2,h3⟩:=h;exact ⟨vals,h1,hk.own h2 hd,fun i h h4=>hk.own (h3 i h h4) hd⟩
theorem j6.below {A B:World} {base:Nat} {v:Value} {ws:List Sc.Wd} (h:j6 A base v ws) (hb:Below A.heap.size A B):j6 B base v ws:=by
 obtain ⟨vals,h1,h2,h3⟩:=h;exact ⟨vals,h1,h2.below' hb,fun i h h4=>(h3 i h h4).below' hb⟩
theorem j6.nil (W:World) (base:Nat):j6 W base (.slice none 0 0) []:=⟨[],rfl,Own.nil _ _ _,fun i h=>by cases h⟩
theorem j6.elem {W:World} {base:Nat} {p:Option Addr} {n c:Nat} {ws:List Sc.Wd} (h:j6 W base (.slice p n c) ws) (k:Nat) (hk:k<ws.length):∃b q m cw,p=some ⟨b,0,none⟩∧W.cell? ⟨b,k,none⟩=some (.slice q m cw)∧m=ws[k].length∧Mem.Own bg W base 5 (.slice q m cw) ws[k]:=by
 obtain ⟨vals,h1,h2,h3⟩:=h;have hkv:k<vals.length:=by omega
 obtain ⟨g,hg⟩:∃g,p=some ⟨g,0,none⟩:=by
  rcases h2.2 with ⟨_,h0⟩ | ⟨g,cap,cur,he,_⟩
  ·omega
  ·injection he with he1 _;exact ⟨g,he1⟩
 subst hg;have hat:=h2.at g rfl k hkv;rw [dR hkv,tJ] at hat;have ho:=h3 k hkv hk;obtain ⟨q,cw,hq⟩:=ho.slice;refine ⟨g,q,_,cw,rfl,?_,rfl,?_⟩
 ·rw [hat];show some (oV vals[k])=_;rw [hq]
 ·rw [← hq];exact ho
theorem j6.mono {W:World} {base b':Nat} {v:Value} {ws:List Sc.Wd} (h:j6 W base v ws) (hb:b'≤base):j6 W b' v ws:=by
 obtain ⟨vals,h1,h2,h3⟩:=h;exact ⟨vals,h1,h2.mono hb,fun i h h4=>(h3 i h h4).mono hb⟩
theorem j6.row {W:World} {base:Nat} {v:Value} {ws:List Sc.Wd} (h:j6 W base v ws):∀g,v.ownBlock=some g→base≤g∧g<W.heap.size:=by
 obtain ⟨vs,h1,h2,h3⟩:=h;exact fun g hg=>h2.lt g hg
end
section
open Go Go.RowKit Mem
structure MG (Y X:World) (c0:OC) (B nb s r:Nat) (pr pe:Option Addr) (kr ke:Nat) (us:List OC) (rows:List (List Ce)) (ends:List Bool):Prop where
 row:Row oV X nb 61 [c0,aV pr s kr,aV pe r ke]
 own:Mem.Own oV X B 96 (.slice pr s kr) us
 len:us.length=s
 rl:rows.length=s
 each:∀i (h:i<us.length),bf 3 dH X B 98 (oV us[i]) (rows.getD i [])
 ends:Mem.Own Value.bool X B 4 (.slice pe r ke) ends
 ds:∀i j (hi:i<us.length) (hj:j<us.length),i≠j→∀k,(oV us[i]).ownBlock=some k→(oV us[j]).ownBlock≠some k
 below:Below Y.heap.size Y X
 lo:Y.heap.size≤nb∧nb<B∧B≤X.heap.size
section
variable {Y X X':World} {c0:OC} {B nb s r:Nat} {pr pe:Option Addr} {kr ke:Nat} {us:List OC} {rows:List (List Ce)} {ends:List Bool}
theorem MG.mono (h:MG Y X c0 B nb s r pr pe kr ke us rows ends) (hb:Below X.heap.size X X'):MG Y X' c0 B nb s r pr pe kr ke us rows ends:=
 ⟨h.row.below hb h.row.lt,h.own.below' hb,h.len,h.rl,fun i hi=>(h.each i hi).below' hb,h.ends.below' hb,h.ds,h.below.trans (hb.mono h.below.size),h.lo.1,h.lo.2.1,gp h.lo.2.2 hb.size⟩
theorem tH (w:World) (b i:Nat) (v:Value):w.grownBy (w.setCell ⟨b,i,none⟩ v) (some b):=eP (aL (aI w.heap.size w) (some b)) i v
theorem bf.far {α:Type} {K:Nat} {enc:α→List OC} {w w':World} {base:Nat} {e:TypeId} {v:Value} {l:List α} (h:bf K enc w base e v l) {b:Nat} (hb:b<base) (hg:w.grownBy w' (some b)):bf K enc w' base e v l:=
 h.grown hg fun k hk e=>by injection e with e;have:=(h.lt k hk).1;omega
theorem jD {α:Type} {f:α→Value} {w w':World} {base:Nat} {e:TypeId} {v:Value} {l:List α} (h:Mem.Own f w base e v l) {b:Nat} (hb:b<base) (hg:w.grownBy w' (some b)):Mem.Own f w' base e v l:=
 h.cK hg fun k hk e=>by injection e with e;have:=(h.lt k hk).1;omega
theorem MG.cells (h:MG Y X c0 B nb s r pr pe kr ke us rows ends) (u:OC) (rw:List Ce) (hu:bf 3 dH X B 98 (oV u) rw) (o:Obj) {p3:Option Addr} {c3:Nat} {w3:World}
  (hd:∀i (hi:i<us.length) k,(oV us[i]).ownBlock=some k→(oV u).ownBlock≠some k) (hO:Mem.Own oV w3 B 96 (.slice p3 (s+1) c3) (us++[u])) (hG:(X.alloc o).grownBy w3 (Value.slice pr s kr).ownBlock):
  MG Y (w3.setCell ⟨nb,1,none⟩ (.slice p3 (s+1) c3)) c0 B nb (s+1) r p3 pe c3 ke (us++[u]) (rows++[rw]) ends:=by
 have ha:=ai (aI X.heap.size X) (aj _) o;have h2:=h.mono ha;have hnb:∀k,(Value.slice pr s kr).ownBlock=some k→k≠nb:=fun k hk e=>by have:=(h2.own.lt k hk).1;have:=h2.lo.2.1;omega
 have r1:=h2.row.grown hG (fun e=>hnb nb e.symm rfl);have e1:∀i (hi:i<us.length),bf 3 dH w3 B 98 (oV us[i]) (rows.getD i []):=fun i hi=>(h2.each i hi).grown hG ((h2.each i hi).type h2.own (by decide));have u1:=(hu.below' ha).grown hG ((hu.below' ha).type h2.own (by decide));have d1:=h2.ends.cK hG (vL h2.ends h2.own (by decide));have b1:Below Y.heap.size Y w3:=h2.below.grown hG h2.below.size fun k hk=>by have:=(h2.own.lt k hk).1;have:=h2.lo.1;have:=h2.lo.2.1;omega
 have hg1:=tH w3 nb 1 (.slice p3 (s+1) c3);have hsz:=hG.size;have hlo:=h2.lo;refine ⟨?_,jD hO hlo.2.1 hg1,by rw [fG,h.len];rfl,by rw [fG,h.rl];rfl,fun i hi=> ?_,jD d1 hlo.2.1 hg1,?_,aQ b1 1 hlo.1 _,hlo.1,hlo.2.1,?_⟩
 ·exact r1.set 1 (aV p3 (s+1) c3)
 ·rcases o8 i us.length with hi2 | hi2
  ·rw [Fa hi2];have hir:i<rows.length:=by rw [h.rl,← h.len];exact hi2
   have:(rows++[rw]).getD i []=rows.getD i []:=by simp [uD,Fg hir]
   rw [this];exact (e1 i hi2).far hlo.2.1 hg1
  ·have hie:i=us.length:=by simp at hi;omega
   subst hie;have:(us++[u])[us.length]'hi=u:=by simp
   have h9:(rows++[rw]).getD us.length []=rw:=by rw [h.len,← h.rl];simp
   rw [this,h9];exact u1.far hlo.2.1 hg1
 ·have hlast:(us++[u])[us.length]'(by simp)=u:=by simp
  intro i j hi hj hij k hk;have hi0:i<us.length+1:=by simpa using hi
  have hj0:j<us.length+1:=by simpa using hj
  rcases o8 i us.length with hi2 | hi2
  ·rw [Fa hi2] at hk;rcases o8 j us.length with hj2 | hj2
   ·rw [Fa hj2];exact h.ds i j hi2 hj2 hij k hk
   ·obtain rfl:j=us.length:=by omega
    rw [hlast];exact hd i hi2 k hk
  ·obtain rfl:i=us.length:=by omega
   rw [hlast] at hk;have hj2:j<us.length:=by omega
   rw [Fa hj2];exact fun e=>hd j hj2 k e hk
 ·have:=hg1.size;omega
theorem MG.flags {Dz:List Bool} (h:MG Y X c0 B nb s r pr pe kr ke us rows ends) (o:Obj) {p3:Option Addr} {c3:Nat} {w3:World}
  (hO:Mem.Own Value.bool w3 B 4 (.slice p3 (r+1) c3) Dz) (hG:(X.alloc o).grownBy w3 (Value.slice pe r ke).ownBlock):
  (Row oV w3 nb 61 [c0,aV pr s kr,aV pe r ke]∧Below Y.heap.size Y w3)∧MG Y (w3.setCell ⟨nb,2,none⟩ (.slice p3 (r+1) c3)) c0 B nb s (r+1) pr p3 kr c3 us rows Dz:=by
 have ha:=ai (aI X.heap.size X) (aj _) o;have h2:=h.mono ha;have hnb:∀k,(Value.slice pe r ke).ownBlock=some k→k≠nb:=fun k hk e=>by have:=(h2.ends.lt k hk).1;have:=h2.lo.2.1;omega
 have r1:=h2.row.grown hG (fun e=>hnb nb e.symm rfl);have e1:∀i (hi:i<us.length),bf 3 dH w3 B 98 (oV us[i]) (rows.getD i []):=fun i hi=>(h2.each i hi).grown hG ((h2.each i hi).type h2.ends (by decide));have d1:=h2.own.cK hG (vL h2.own h2.ends (by decide));have b1:Below Y.heap.size Y w3:=h2.below.grown hG h2.below.size fun k hk=>by have:=(h2.ends.lt k hk).1;have:=h2.lo.1;have:=h2.lo.2.1;omega
 have hg1:=tH w3 nb 2 (.slice p3 (r+1) c3);have hsz:=hG.size;have hlo:=h2.lo;refine ⟨⟨r1,b1⟩,r1.set 2 (aV p3 (r+1) c3),jD d1 hlo.2.1 hg1,h.len,h.rl,fun i hi=>(e1 i hi).far hlo.2.1 hg1,jD hO hlo.2.1 hg1,h.ds,aQ b1 2 hlo.1 _,hlo.1,hlo.2.1,?_⟩;have:=hg1.size;omega
theorem kW (c:Ce):(dH c).length=3:=rfl
theorem MG.JS (h:MG Y X c0 B nb s r pr pe kr ke us rows ends) {Z:World} {b:Nat} (hg:X.grownBy Z (some b)) (hb:b<Y.heap.size) {cl:List Cl} (hc:fq 4 aS Z c0.1 cl):dB Z (.agg #[c0.1, .slice pr s kr, .slice pe r ke]) ⟨cl,rows,ends⟩:=by
 have Ia:b<B:=by have:=h.lo.1;have:=h.lo.2.1;omega
 have hl:us.length=rows.length:=h.len.trans h.rl.symm;refine ⟨_,_,_,rfl,hc,?_,(jD h.ends Ia hg).rd⟩;rcases (jD h.own Ia hg).rd with ⟨p,e,e0⟩ | ⟨b,o,c,e,hcc,ha,hb⟩
 ·refine .inl ⟨p,e,tQ.1 (by rw [← hl,e0];rfl)⟩
 ·refine .inr ⟨b,o,c,by rw [e,hl],by rw [← hl];exact hcc,fun i hi=> ?_,hb⟩;have hi:i<rows.length:=hi;have hiu:i<us.length:=by omega
  have h9:=((h.each i hiu).far Ia hg).rd kW;rw [uD,dR hi] at h9;exact ⟨oV us[i],by rw [ha i hiu,dR hiu];rfl,h9⟩
end
end
end Go.Proofs.YtngjelolnfgnbaaGreatDoor
