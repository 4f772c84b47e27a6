/- Part of a proof. -/
import Derived.Test.YtngjelolnfgnbaaGreatDoorMNWrite
import Derived.Test.YtngjelolnfgnbaaGreatDoorMAutB
set_option linter.all false
set_option maxRecDepth 100000
set_option maxHeartbeats 64000000
namespace Go.Proofs.YtngjelolnfgnbaaGreatDoor
open Go Go.RowKit Mem
theorem JG (w:World) (p:Option Addr) (c:Nat) (l:List UInt8) (n:Nat) (hn:n≤1000) (hl:l.length≤1000) (hv:Rd bg w (.slice p l.length c) l):Calls Tryz.prog 16 #[.slice p l.length c, .int .i64 (n:Int)] w fun e w'=>∃po ko m,e= .returned (.slice po m.length ko)∧m.length≤n∧Rd bg w' (.slice po m.length ko) m∧Below w.heap.size w w':=by
 have HV:=af hv;clear hv;go_enter Tryz.func16,Tryz.ntmps16;go_upto_region 2 with (fail);have xu:Mem.Own bg (w.alloc (.cells #[] 5)) w.heap.size 5 (.slice (some ⟨w.heap.size,0,none⟩) 0 0) []:=⟨by simp, .inr ⟨w.heap.size,0,_,rfl,aj _,World.alloc_heap_new _ _,by simp,by unfold maxLen;omega,by simp,by simp⟩⟩
 have hb0:=ai (aI w.heap.size w) (aj _) (.cells #[] 5);generalize (w.alloc (.cells #[] 5))=wA at *;go_upto_region 3 with (fail)
 go_loopw [5,6,7] (fun s5 s6 s7 wr=>∃(k:Nat) (po:Option Addr) (ko:Nat) (m:List UInt8),k≤l.length∧k≤n∧m.length=k∧s6= .int .i64 k∧s5= .slice po k ko∧Mem.Own bg wr w.heap.size 5 (.slice po k ko) m∧Below w.heap.size w wr) (fun _ i _ _=>l.length - (intOf i).toNat)
 case atStart=>exact ⟨0,_,0,[],by omega,by omega,rfl,rfl,rfl,xu,hb0⟩
 case round=>
  clear xu hb0;obtain ⟨k,po,ko,m,hk,hkn,hm,rfl,rfl,hO,hb⟩:=hrel;by_cases hlt:k<l.length
  ·by_cases hn2:k<n
   ·have hq:(k:Int)<(l.length:Int):=by omega
    have hq2:(k:Int)<(n:Int):=by omega
    obtain ⟨b,o,rfl,hcl⟩:∃b o,p=some ⟨b,o,none⟩∧wr.cell? ⟨b,o+k,none⟩=some (.int .u8 (l[k].toNat:Int)):=by
     rcases HV.out with ⟨_,_,e0⟩ | ⟨b,o,cap,he,hc,hat,hbl⟩
     ·rw [e0] at hlt;simp at hlt
     ·cases he;refine ⟨b,o,rfl,?_⟩;have:=hat k hlt;rw [hb.cell (p:=⟨b,o+k,none⟩) hbl];rw [dR hlt] at this;exact this
    have hyl:l[k].toNat<256:=l[k].toNat_lt;generalize l[k].toNat=y at *;have z1:(y:Int).tmod 4=((y % 4:Nat):Int):=by rw [zO (by omega)];omega
    have z2:(y:Int) % 4=((y % 4:Nat):Int):=by omega
    have z3:y % 4<4:=xR _ (by omega);have HO:=af hO;have HB:=af hb;have HM:=af hm;clear hO hb hm;by_cases h1:y<97
    ·have q1:(y:Int)<97:=by omega
     generalize y % 4=r at *;have hw:IntKind.u8.wrap (97+(r:Int))=97+(r:Int):=by rw [yN];omega
     have hw2:IntKind.u8.wrap (r:Int)=(r:Int):=by rw [yN];omega
     have HZ:Hid (((UInt8.ofNat (97+r)).toNat:Int)=97+(r:Int)):=af (by rw [Dw];omega);go_wp2_with (at_builtin;(with_reducible refine dJ qE (.tmp 33) (.tmp 35) ?_ ?_ gD ?_ HO.out (UInt8.ofNat (97+r)) _ ?_ _ ?_ ?_ ?_ ?_ (m++[UInt8.ofNat (97+r)]) ?_ ?_);rfl;rfl;rfl;(show _=Value.int .u8 _;rw [HZ.out]);rfl;(rw [HM.out];omega);(rw [HM.out];omega);(exact HB.out.size);rfl;(intro p9 c9 w9 yI Cv sw))
     go_roundw
     case rel=>exact ⟨k+1,p9,c9,m++[UInt8.ofNat (97+r)],by omega,by omega,by rw [fG,HM.out];rfl,by go_num,by rw [HM.out],by rw [fG,HM.out] at yI;exact yI,HB.out.trans Cv⟩
     case measure=>simp [intOf];omega
    ·have q1:¬(y:Int)<97:=by omega
     by_cases h2:100<y
     ·have q2:(100:Int)<(y:Int):=by omega
      generalize y % 4=r at *;have hw:IntKind.u8.wrap (97+(r:Int))=97+(r:Int):=by rw [yN];omega
      have hw2:IntKind.u8.wrap (r:Int)=(r:Int):=by rw [yN];omega
      have HZ:Hid (((UInt8.ofNat (97+r)).toNat:Int)=97+(r:Int)):=af (by rw [Dw];omega);go_wp2_with (at_builtin;(with_reducible refine dJ qE (.tmp 33) (.tmp 35) ?_ ?_ gD ?_ HO.out (UInt8.ofNat (97+r)) _ ?_ _ ?_ ?_ ?_ ?_ (m++[UInt8.ofNat (97+r)]) ?_ ?_);rfl;rfl;rfl;(show _=Value.int .u8 _;rw [HZ.out]);rfl;(rw [HM.out];omega);(rw [HM.out];omega);(exact HB.out.size);rfl;(intro p9 c9 w9 yI Cv sw))
      go_roundw
      case rel=>exact ⟨k+1,p9,c9,m++[UInt8.ofNat (97+r)],by omega,by omega,by rw [fG,HM.out];rfl,by go_num,by rw [HM.out],by rw [fG,HM.out] at yI;exact yI,HB.out.trans Cv⟩
      case measure=>simp [intOf];omega
     ·have q2:¬(100:Int)<(y:Int):=by omega
      have HZ:Hid (((UInt8.ofNat y).toNat:Int)=(y:Int)):=af (by rw [Dw];omega);go_wp2_with (at_builtin;(with_reducible refine dJ qE (.tmp 33) (.tmp 35) ?_ ?_ gD ?_ HO.out (UInt8.ofNat y) _ ?_ _ ?_ ?_ ?_ ?_ (m++[UInt8.ofNat y]) ?_ ?_);rfl;rfl;rfl;(show _=Value.int .u8 _;rw [HZ.out]);rfl;(rw [HM.out];omega);(rw [HM.out];omega);(exact HB.out.size);rfl;(intro p9 c9 w9 yI Cv sw))
      go_roundw
      case rel=>exact ⟨k+1,p9,c9,m++[UInt8.ofNat y],by omega,by omega,by rw [fG,HM.out];rfl,by go_num,by rw [HM.out],by rw [fG,HM.out] at yI;exact yI,HB.out.trans Cv⟩
      case measure=>simp [intOf];omega
   ·have hq2:¬(k:Int)<(n:Int):=by omega
    have hq:(k:Int)<(l.length:Int):=by omega
    go_wp2;go_ret;exact ⟨po,ko,m,by rw [hm];rfl,by omega,hm▸hO.rd,hb⟩
  ·have hq:¬(k:Int)<(l.length:Int):=by omega
   go_wp2;go_ret;exact ⟨po,ko,m,by rw [hm];rfl,by omega,hm▸hO.rd,hb⟩
end Go.Proofs.YtngjelolnfgnbaaGreatDoor
