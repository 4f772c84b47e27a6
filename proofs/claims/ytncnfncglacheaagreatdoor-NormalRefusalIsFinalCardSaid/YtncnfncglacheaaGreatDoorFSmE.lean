/- Part of a proof. -/
import Derived.Test.YtncnfncglacheaaGreatDoorFSomeOk
set_option linter.all false
set_option maxRecDepth 100000
set_option maxHeartbeats 64000000
namespace Go.Proofs.YtncnfncglacheaaGreatDoor
open Go Go.RowKit Mem
theorem aff {w:World} (h:iw w):Ev.Cs w Ev.gT Ev.rJ:=fun j hj=>by
 have hj:j<64:=by simpa [Ev.rJ,Lib.deBruijn64tab] using hj
 rw [h j hj];simp only [Ev.rJ,jS];rw [bM (by simpa [Lib.deBruijn64tab] using hj)];simp [List.getD,bM (show j<Lib.deBruijn64tab.length by simpa [Lib.deBruijn64tab] using hj)]
theorem Uq {w:World} (h:Ev.Cs w Ev.gT Ev.rJ):iw w:=fun j hj=>by
 rw [h j (by simpa [Ev.rJ,Lib.deBruijn64tab] using hj)];simp only [Ev.rJ,jS];rw [bM (by simpa [Lib.deBruijn64tab] using hj)];simp [List.getD,bM (show j<Lib.deBruijn64tab.length by simpa [Lib.deBruijn64tab] using hj)]
theorem QS {w:World} {B:Nat} {c:Cl} {b:Int} (hb:((fU 3 c 0 0 0 0++fU 8 ⟨0,0,0,0⟩ 0 0 0 (-1)).map oV)=Ev.FR b) (hB:B<w.heap.size) (h:Ev.Cs w B (Ev.FR b)):sP w B c:=by
 rw [← hb] at h;refine ⟨fun i hi=> ?_,fun i hi=> ?_,hB⟩
 ·have hi9:i<9:=hi;have:=h i (by simp [fU];omega);rw [nR,this,jS,Ig hi]
 ·have hi9:i<9:=hi;have:=h (9+i) (by simp [fU];omega);rw [this,jS,Kk (by simp [fU])];congr 2;simp [fU]
theorem Xk:Ev.Rs Ev.eA:=fun w B c hB hg hT he=>by
 obtain ⟨R,_,hBT⟩:=adn;have hr:=QS (c:=Ae) (b:=8589934592) rfl hB he;refine (hBT w B c hr.1 hr.2.1 hB (Uq hT) hg).mono fun e w' ⟨v,e1,⟨u,e2,vc,vn,va,e3,d1,d2,d3⟩,hb⟩=> ?_;subst e2;subst e3;have k1:∃p n c,vc= .slice p n c:=by rcases d1 with ⟨p,rfl,_⟩ | ⟨b,o,cap,rfl,_⟩<;>exact ⟨_,_,_,rfl⟩
 have k2:∃p n c,vn= .slice p n c:=by rcases d2 with ⟨p,rfl,_⟩ | ⟨b,o,cap,rfl,_⟩<;>exact ⟨_,_,_,rfl⟩
 have k3:∃p n c,va= .slice p n c:=by rcases d3 with ⟨p,rfl,_⟩ | ⟨b,o,cap,rfl,_⟩<;>exact ⟨_,_,_,rfl⟩
 obtain ⟨_,_,_,rfl⟩:=k1;obtain ⟨_,_,_,rfl⟩:=k2;obtain ⟨_,_,_,rfl⟩:=k3;exact ⟨_,_,_,_,_,_,_,_,_,e1,hb⟩
theorem ae7 {e0 e1:Int} {c0 c1:Cl} {R0 R1:DF} (hb0:((fU 3 c0 0 0 0 0++fU 8 ⟨0,0,0,0⟩ 0 0 0 (-1)).map oV)=Ev.FR e0) (hb1:((fU 3 c1 0 0 0 0++fU 8 ⟨0,0,0,0⟩ 0 0 0 (-1)).map oV)=Ev.FR e1) (vz:R0.Ok) (mE:R1.Ok) (hB0:gM c0 R0) (hB1:gM c1 R1):Ev.OM (Ev.FR e0) (Ev.FR e1):=
 fun w B B0 B1 c n0 n1 f0 f1 hB h0 h1 hg hT hp he0 he1=>UB w B c B0 B1 n0 n1 f0 f1 c0 c1 R0 R1
  (fun i hi=>by
   have hi:i<2:=hi
   rw [nR,hp i (by omega)]
   match i,hi with
   | 0,_=>rfl
   | 1,_=>rfl)
  (fun i hi=>by
   have hi:i<2:=hi
   rw [hp (2+i) (by omega)]
   match i,hi with
   | 0,_=>rfl
   | 1,_=>rfl) hB (QS hb0 h0 he0) (QS hb1 h1 he1) vz mE hB0 hB1 (Uq hT) hg
end Go.Proofs.YtncnfncglacheaaGreatDoor
