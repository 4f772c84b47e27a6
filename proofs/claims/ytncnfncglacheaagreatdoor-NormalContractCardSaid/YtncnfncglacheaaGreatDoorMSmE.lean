/- Part of a proof. -/
import Derived.Test.YtncnfncglacheaaGreatDoorMSomeOk
set_option linter.all false
set_option maxRecDepth 100000
set_option maxHeartbeats 64000000
namespace Go.Proofs.YtncnfncglacheaaGreatDoor
open Go Go.RowKit Mem
theorem aeB {w:World} (h:gV w):Ev.Cs w Ev.gT Ev.rG:=fun j hj=>by
 have hj:j<64:=by simpa [Ev.rG,Lib.deBruijn64tab] using hj
 rw [h j hj];simp only [Ev.rG,kJ];rw [bK (by simpa [Lib.deBruijn64tab] using hj)];simp [List.getD,bK (show j<Lib.deBruijn64tab.length by simpa [Lib.deBruijn64tab] using hj)]
theorem TC {w:World} (h:Ev.Cs w Ev.gT Ev.rG):gV w:=fun j hj=>by
 rw [h j (by simpa [Ev.rG,Lib.deBruijn64tab] using hj)];simp only [Ev.rG,kJ];rw [bK (by simpa [Lib.deBruijn64tab] using hj)];simp [List.getD,bK (show j<Lib.deBruijn64tab.length by simpa [Lib.deBruijn64tab] using hj)]
theorem P5 {w:World} {B:Nat} {c:Cl} {b:Int} (hb:((fI 3 c 0 0 0 0++fI 8 ⟨0,0,0,0⟩ 0 0 0 (-1)).map oV)=Ev.DT b) (hB:B<w.heap.size) (h:Ev.Cs w B (Ev.DT b)):rZ w B c:=by
 rw [← hb] at h;refine ⟨fun i hi=> ?_,fun i hi=> ?_,hB⟩
 ·have hi9:i<9:=hi;have:=h i (by simp [fI];omega);rw [oq,this,kJ,Jl hi]
 ·have hi9:i<9:=hi;have:=h (9+i) (by simp [fI];omega);rw [this,kJ,JV (by simp [fI])];congr 2;simp [fI]
theorem VJ:Ev.QH Ev.eA:=fun w B c hB hg hT he=>by
 obtain ⟨R,_,hBT⟩:=acy;have hr:=P5 (c:=zR) (b:=8589934592) rfl hB he;refine (hBT w B c hr.1 hr.2.1 hB (TC hT) hg).mono fun e w' ⟨v,e1,⟨u,e2,vc,vn,va,e3,d1,d2,d3⟩,hb⟩=> ?_;subst e2;subst e3;have k1:∃p n c,vc= .slice p n c:=by rcases d1 with ⟨p,rfl,_⟩ | ⟨b,o,cap,rfl,_⟩<;>exact ⟨_,_,_,rfl⟩
 have k2:∃p n c,vn= .slice p n c:=by rcases d2 with ⟨p,rfl,_⟩ | ⟨b,o,cap,rfl,_⟩<;>exact ⟨_,_,_,rfl⟩
 have k3:∃p n c,va= .slice p n c:=by rcases d3 with ⟨p,rfl,_⟩ | ⟨b,o,cap,rfl,_⟩<;>exact ⟨_,_,_,rfl⟩
 obtain ⟨_,_,_,rfl⟩:=k1;obtain ⟨_,_,_,rfl⟩:=k2;obtain ⟨_,_,_,rfl⟩:=k3;exact ⟨_,_,_,_,_,_,_,_,_,e1,hb⟩
theorem adI {e0 e1:Int} {c0 c1:Cl} {R0 R1:DF} (hb0:((fI 3 c0 0 0 0 0++fI 8 ⟨0,0,0,0⟩ 0 0 0 (-1)).map oV)=Ev.DT e0) (hb1:((fI 3 c1 0 0 0 0++fI 8 ⟨0,0,0,0⟩ 0 0 0 (-1)).map oV)=Ev.DT e1) (uR:R0.Ok) (lK:R1.Ok) (hB0:gD c0 R0) (hB1:gD c1 R1):Ev.M9 (Ev.DT e0) (Ev.DT e1):=
 fun w B B0 B1 c n0 n1 f0 f1 hB h0 h1 hg hT hp he0 he1=>TY w B c B0 B1 n0 n1 f0 f1 c0 c1 R0 R1
  (fun i hi=>by
   have hi:i<2:=hi
   rw [oq,hp i (by omega)]
   match i,hi with
   | 0,_=>rfl
   | 1,_=>rfl)
  (fun i hi=>by
   have hi:i<2:=hi
   rw [hp (2+i) (by omega)]
   match i,hi with
   | 0,_=>rfl
   | 1,_=>rfl) hB (P5 hb0 h0 he0) (P5 hb1 h1 he1) uR lK hB0 hB1 (TC hT) hg
end Go.Proofs.YtncnfncglacheaaGreatDoor
