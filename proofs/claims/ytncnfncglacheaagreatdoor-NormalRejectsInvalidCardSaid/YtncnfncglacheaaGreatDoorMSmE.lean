/- univocalref17.Small by evaluation, with what the automata texts prove. -/
import Derived.Test.YtncnfncglacheaaGreatDoorMEvL
import Derived.Test.YtncnfncglacheaaGreatDoorMNode
namespace Go.Proofs.YtncnfncglacheaaGreatDoor
open Go Go.RowKit Mem
set_option maxRecDepth 100000
theorem csTab {w:World} (h:Tab w):Ev.Cs w Ev.gT Ev.tabV:=fun j hj=>by
 have hj:j<64:=by simpa [Ev.tabV,Lib.deBruijn64tab] using hj
 rw [h j hj]
 simp only [Ev.tabV,List.getElem?_map]
 rw [List.getElem?_eq_getElem (by simpa [Lib.deBruijn64tab] using hj)]
 simp [List.getD,List.getElem?_eq_getElem (show j<Lib.deBruijn64tab.length by simpa [Lib.deBruijn64tab] using hj)]
theorem tabCs {w:World} (h:Ev.Cs w Ev.gT Ev.tabV):Tab w:=fun j hj=>by
 rw [h j (by simpa [Ev.tabV,Lib.deBruijn64tab] using hj)]
 simp only [Ev.tabV,List.getElem?_map]
 rw [List.getElem?_eq_getElem (by simpa [Lib.deBruijn64tab] using hj)]
 simp [List.getD,List.getElem?_eq_getElem (show j<Lib.deBruijn64tab.length by simpa [Lib.deBruijn64tab] using hj)]
theorem reCs {w:World} {B:Nat} {c:Cl} {b:Int} (hb:((rnL 3 c 0 0 0 0++rnL 8 ⟨0,0,0,0⟩ 0 0 0 (-1)).map oV)=Ev.reV b) (hB:B<w.heap.size) (h:Ev.Cs w B (Ev.reV b)):ReAt w B c:=by
 rw [← hb] at h
 refine ⟨fun i hi=> ?_,fun i hi=> ?_,hB⟩
 ·have hi9:i<9:=hi
  have:=h i (by simp [rnL];omega)
  rw [Nat.zero_add,this,List.getElem?_map,List.getElem?_append_left hi]
 ·have hi9:i<9:=hi
  have:=h (9+i) (by simp [rnL];omega)
  rw [this,List.getElem?_map,List.getElem?_append_right (by simp [rnL])]
  congr 2
  simp [rnL]
theorem buildAtE:Ev.BuildAt Ev.eA:=fun w B c hB hg hT he=>by
 obtain ⟨R,_,hBT⟩:=builtA
 have hr:=reCs (c:=clLA) (b:=8589934592) rfl hB he
 refine (hBT w B c hr.1 hr.2.1 hB (tabCs hT) hg).mono fun e w' ⟨v,e1,⟨u,e2,vc,vn,va,e3,d1,d2,d3⟩,hb⟩=> ?_
 subst e2
 subst e3
 have k1:∃p n c,vc= .slice p n c:=by rcases d1 with ⟨p,rfl,_⟩ | ⟨b,o,cap,rfl,_⟩<;>exact ⟨_,_,_,rfl⟩
 have k2:∃p n c,vn= .slice p n c:=by rcases d2 with ⟨p,rfl,_⟩ | ⟨b,o,cap,rfl,_⟩<;>exact ⟨_,_,_,rfl⟩
 have k3:∃p n c,va= .slice p n c:=by rcases d3 with ⟨p,rfl,_⟩ | ⟨b,o,cap,rfl,_⟩<;>exact ⟨_,_,_,rfl⟩
 obtain ⟨_,_,_,rfl⟩:=k1
 obtain ⟨_,_,_,rfl⟩:=k2
 obtain ⟨_,_,_,rfl⟩:=k3
 exact ⟨_,_,_,_,_,_,_,_,_,e1,hb⟩
theorem patE {e0 e1:Int} {c0 c1:Cl} {R0 R1:DF} (hb0:((rnL 3 c0 0 0 0 0++rnL 8 ⟨0,0,0,0⟩ 0 0 0 (-1)).map oV)=Ev.reV e0) (hb1:((rnL 3 c1 0 0 0 0++rnL 8 ⟨0,0,0,0⟩ 0 0 0 (-1)).map oV)=Ev.reV e1) (hB0:BuiltTo c0 R0) (hB1:BuiltTo c1 R1):Ev.PatAt2 (Ev.reV e0) (Ev.reV e1):=
 fun w B B0 B1 c n0 n1 f0 f1 hB h0 h1 hg hT hp he0 he1=>patValid2 w B c B0 B1 n0 n1 f0 f1 c0 c1 R0 R1
  (fun i hi=>by
   have hi:i<2:=hi
   rw [Nat.zero_add,hp i (by omega)]
   match i,hi with
   | 0,_=>rfl
   | 1,_=>rfl)
  (fun i hi=>by
   have hi:i<2:=hi
   rw [hp (2+i) (by omega)]
   match i,hi with
   | 0,_=>rfl
   | 1,_=>rfl) hB (reCs hb0 h0 he0) (reCs hb1 h1 he1) hB0 hB1 (tabCs hT) hg
theorem rSmallE (w:World) (kv:Int) (hk0:0≤kv∧kv<256) (hT:Tab w) (htl:1<w.heap.size):Calls Tryz.prog 8 #[.int .u8 kv] w fun e w'=>∃ss bs:Sl,e= .returned (.agg #[ss.v,bs.v])∧Ev.CkAt w' (.agg #[ss.v,bs.v])∧Below w.heap.size w w':=by
 obtain ⟨n,rfl⟩:=Int.eq_ofNat_of_zero_le hk0.1
 obtain ⟨RA,_,hA⟩:=builtA
 obtain ⟨RB,_,hB⟩:=builtB
 obtain ⟨RC,_,hC⟩:=builtAB
 refine (Ev.small_all buildAtE (patE rfl rfl hA hC) (patE rfl rfl hC hB) w htl (csTab hT) n (by omega)).mono fun e w' ⟨p1,n1,c1,p2,n2,c2,e1,h1,h2⟩=>⟨⟨p1,n1,c1⟩,⟨p2,n2,c2⟩,e1,h1,h2⟩
end Go.Proofs.YtncnfncglacheaaGreatDoor
