/- The walk of univocallaw25.NormalRejectsInvalid: it returns true. -/
import Derived.Test.YtncnfncglacheaaGreatDoorMHeldD
import Derived.Test.YtncnfncglacheaaGreatDoorMInvN
import Derived.Test.YtncnfncglacheaaGreatDoorMCanP
import Derived.Test.YtncnfncglacheaaGreatDoorMEvSan
import Derived.Test.YtncnfncglacheaaGreatDoorMMeetsE
import Derived.Test.YtncnfncglacheaaGreatDoorMTbM
import Derived.Deep.CutBlock
import Derived.Lib.SlBytesConst
namespace Go.Proofs.YtncnfncglacheaaGreatDoor
open Go Go.RowKit Mem
set_option maxRecDepth 100000
def BadAt (w W:World) (n8:Nat):Prop:=∃(pc pr pe:Option Addr) (kc kr ke:Nat) (N:NZ),Row oV W n8 37 [⟨.slice pc N.cls.length kc,rfl⟩,⟨.slice pr N.rows.length kr,rfl⟩,⟨.slice pe N.ends.length ke,rfl⟩]∧NzAt W (.agg #[.slice pc N.cls.length kc, .slice pr N.rows.length kr, .slice pe N.ends.length ke]) N∧N.valid=false∧Below w.heap.size w W
theorem aggNz:AggT Tryz.prog 37 3:=⟨fun _=>by kernel_rfl,fun _=>by kernel_rfl⟩
theorem aggQu:AggT Tryz.prog 32 6:=⟨fun _=>by kernel_rfl,fun _=>by kernel_rfl⟩
theorem aggSc:AggT Tryz.prog 30 2:=⟨fun _=>by kernel_rfl,fun _=>by kernel_rfl⟩
theorem aggTr4:AggT Tryz.prog 70 4:=⟨fun _=>by kernel_rfl,fun _=>by kernel_rfl⟩
theorem aggNS2:AggT Tryz.prog 48 2:=⟨fun _=>by kernel_rfl,fun _=>by kernel_rfl⟩
theorem ownK_frozen {α:Type} {K:Nat} {enc:α→List OC} {w:World} {B b n c:Nat} {e:TypeId} {l:List α} (h:OwnK K enc w B e (.slice (some ⟨b,0,none⟩) n c) l) (i:Nat):w.frozen? ⟨b,i,none⟩=false:=by
 rcases h.2 with ⟨h0,_⟩ | ⟨g,cap,cur,he,_,hg,_⟩
 ·cases h0
 ·cases he
  unfold World.frozen?
  rw [hg]
  simp
theorem BadAt.of {w W:World} {n8 B g:Nat} {cs:List Cl} {pr pe:Option Addr} {nr kr ne ke:Nat} {us:List OC} {rows:List (List Ce)} {ends:List Bool} (h:NOw w B W g cs ⟨.slice pr nr kr,rfl⟩ ⟨.slice pe ne ke,rfl⟩ us rows ends) (h3:cs.length=3) (hnr:rows.length=nr) (hne:ends.length=ne) (hr:Row oV W n8 37 [⟨.slice (some ⟨g,0,none⟩) 3 3,rfl⟩,⟨.slice pr nr kr,rfl⟩,⟨.slice pe ne ke,rfl⟩]) (hbad:(⟨cs,rows,ends⟩:NZ).valid=false) (hB:Below w.heap.size w W):BadAt w W n8:=by
 subst hnr hne
 have hz:=h.nz h3
 refine ⟨some ⟨g,0,none⟩,pr,pe,3,kr,ke,⟨cs,rows,ends⟩,?_,?_,hbad,hB⟩
 ·show Row oV W n8 _ [⟨.slice _ cs.length 3,rfl⟩,_,_]
  simp only [h3]
  exact hr
 ·show NzAt W (.agg #[.slice _ cs.length 3,_,_]) _
  rw [h3]
  exact hz
set_option maxHeartbeats 64000000 in
theorem invalidW (w:World) (p1 p2:Option Addr) (c1 c2:Nat) (l b:List UInt8) (x:UInt8) (h1:Rd u8V w (.slice p1 l.length c1) l) (h2:Rd u8V w (.slice p2 b.length c2) b) (hbn:b.length≤140737488351232) (hT:Tab w) (htl:1<w.heap.size):
  Calls Tryz.prog 5 #[.slice p1 l.length c1, .int .u8 (x.toNat:Int), .slice p2 b.length c2] w fun e w'=>e= .returned (.bool true)∧Below w.heap.size w w':=by
 obtain ⟨xv,hxv⟩:∃xv:Int,(x.toNat:Int)=xv:=⟨_,rfl⟩
 have hx0:0≤xv∧xv<256:=by have:=x.toNat_lt;omega
 rw [hxv]
 clear hxv
 have HR1:=Lib.hid h1
 have HR2:=Lib.hid h2
 have HTT:=Lib.hid (And.intro hT htl)
 have hgN:Ev.gN≤w.heap.size:=htl
 obtain ⟨ll,Hll⟩:∃n,Hid (l.length=n):=⟨_,Lib.hid rfl⟩
 obtain ⟨bl,Hbl⟩:∃n,Hid (b.length=n):=⟨_,Lib.hid rfl⟩
 rw [Hll.out,Hbl.out]
 clear h1 h2 hT htl
 go_enter Tryz.func5,Tryz.ntmps5
 go_wp2_with fail
 refine (Ev.sanity1 w hgN).mono ?_
 rintro e W1 ⟨rfl,hB1⟩
 go_wp2_with fail
 have hcl:=rMadeN W1 p1 c1 l (HR1.out.below hB1)
 rw [Hll.out] at hcl
 refine hcl.mono ?_
 clear hcl
 rintro e W2 ⟨B,g,pr,pe,kr,ke,us,rfl,hN,hul⟩
 obtain ⟨hs1,hs4⟩:=mkStates_le l
 obtain ⟨rows,Hrows⟩:∃r,Hid (mkRows l (mkStates l)=r):=⟨_,Lib.hid rfl⟩
 obtain ⟨ends,Hends⟩:∃r,Hid (mkEnds l (mkStates l)=r):=⟨_,Lib.hid rfl⟩
 have hrl:rows.length=mkStates l:=by rw [← Hrows.out,mkRows_length]
 have hel:ends.length=mkStates l:=by rw [← Hends.out,mkEnds_length]
 have HR3:Hid (∀r∈rows,r.length=3):=Lib.hid fun r hr=>by
  rw [← Hrows.out] at hr
  obtain ⟨i,hi⟩:=List.getElem?_of_mem hr
  obtain ⟨h0,h1⟩:=List.getElem?_eq_some_iff.1 hi
  rw [← h1]
  simp [mkRows,mkRow]
 rw [Hrows.out,Hends.out] at hN
 generalize mkStates l=s at *
 have hNk:NOw w B W2 g [clOo,clOa,clOb] ⟨.slice pr s kr,rfl⟩ ⟨.slice pe s ke,rfl⟩ us rows ends:=⟨hN.cls,hN.own,hN.each,hN.ends,hN.ds,hB1.trans (hN.low.mono hB1.size),hN.lo.1,Nat.le_trans hB1.size hN.lo.2.1,hN.lo.2.2⟩
 have hz:Row oV (W2.alloc (.cells #[.slice none 0 0, .slice none 0 0, .slice none 0 0] 37)) W2.heap.size 37 [on,on,on]:=Row.new _ _ rfl
 have hba:Below W2.heap.size W2 (W2.alloc (.cells #[.slice none 0 0, .slice none 0 0, .slice none 0 0] 37)):=(Below.refl _ _).alloc (Nat.le_refl _) _
 go_upto_region 3 with ((with_reducible refine zS (l':=[⟨.slice (some ⟨g,0,none⟩) 3 3,rfl⟩,⟨.slice pr s kr,rfl⟩,⟨.slice pe s ke,rfl⟩]) hz aggNz ?_);(intro W3 hs3 hG3 hz3))
 have hB3:Below W2.heap.size W2 W3:=hba.grown hG3 hba.size (fun k e=>by cases e;exact Nat.le_refl _)
 have hN3:=hNk.keep hB3
 have hnB:B≤W2.heap.size:=hNk.lo.2.2
 have hn8:=hs3.lt
 clear hN hNk hz hba hG3 hz3 hB3 hB1 Hrows Hends
 generalize W2.heap.size=n8 at *
 clear W1 W2
 have q0:W3.cell? ⟨n8,0,none⟩=some (.slice (some ⟨g,0,none⟩) 3 3):=by rw [hs3.cell?];rfl
 have q1:W3.cell? ⟨n8,1,none⟩=some (.slice pr s kr):=by rw [hs3.cell?];rfl
 have q2:W3.cell? ⟨n8,2,none⟩=some (.slice pe s ke):=by rw [hs3.cell?];rfl
 have hwr:IntKind.i64.wrap ((s:Int) - 1)=(s:Int) - 1:=by rw [IntKind.wrap_i64];omega
 have hs0:((s:Int) - 1).toNat=s - 1:=by omega
 go_upto_block 0 with fail
 have HN3:=Lib.hid hN3
 obtain ⟨gr,kr',hvr, -, -⟩:=ownsRow_sl hN3.rowsT (by omega)
 have hul2:us.length=s:=by first | exact hul | omega
 obtain ⟨rfl,rfl⟩:pr=some ⟨gr,0,none⟩∧kr=kr':=by
  have hvr':Value.slice pr s kr= .slice (some ⟨gr,0,none⟩) us.length kr':=hvr
  injection hvr' with e1 e2 e3
  exact ⟨e1,e3⟩
 have Hs:=Lib.hid hul2
 have hrn:gr≠n8:=by have:=(World.ownsRow.lt hN3.rowsT gr rfl).2;have h9:=own_ne_row hN3.rowsT hs3 (by decide) gr rfl;exact h9
 have hgn:g≠n8:=by have:=hN3.lo.1;omega
 have HROW:Hid (∀i,i<s→∃(u:OC) (b0 cb:Nat) (r:List Ce) (x0 x1 x2:Ce),us[i]?=some u∧u.1= .slice (some ⟨b0,0,none⟩) 3 cb∧r=[x0,x1,x2]∧rows[i]?=some r∧OwnK 3 ceL W3 B 61 u.1 r∧b0≠n8∧b0<W3.heap.size):=Lib.hid fun i hi=>by
  replace hi:i<us.length:=by rw [Hs.out];exact hi
  obtain ⟨r,hr,hk⟩:=HN3.out.row (List.getElem?_eq_getElem hi)
  have h3:=HR3.out r (List.mem_of_getElem? hr)
  match r,h3 with
  | [x0,x1,x2],_=>
   obtain ⟨b0,cb,e,_,_⟩:=ownsRow_sl hk (by simp)
   exact ⟨us[i],b0,cb,_,x0,x1,x2,List.getElem?_eq_getElem hi,e,rfl,hr,hk,own_ne_row hk hs3 (by decide) b0 (by rw [e];rfl),(World.ownsRow.lt hk b0 (by rw [e];rfl)).2⟩
 have HS3:=Lib.hid hs3
 clear hN3 hs3 hvr q0 hul hul2
 go_cut [] from 30 to 92 (fun wx=>BadAt w wx n8)
 case first=>
  have hq1:(1:Int)≤(s:Int):=by omega
  have hq2:¬((s:Int)≤(s:Int) - 1):=by omega
  have hx7:xv % 7=0∨xv % 7=1∨xv % 7=2∨xv % 7=3∨xv % 7=4∨xv % 7=5∨xv % 7=6:=by omega
  go_upto_region 5 with (fail)
  rcases hx7 with h7 | h7 | h7 | h7 | h7 | h7 | h7<;>rw [h7]
  ·
   obtain ⟨u,b0,cb,r,x0,x1,x2,hu,eu,rfl,hr,hk,hbn0,hbl⟩:=HROW.out (s - 1) (by omega)
   have HK:=Lib.hid (And.intro hu (And.intro hr hk))
   have HF:Hid (∀Z,Below W3.heap.size W3 Z→Z.cell? ⟨n8,1,none⟩=some (.slice (some ⟨gr,0,none⟩) s kr)∧Z.cell? ⟨gr,s - 1,none⟩=some (.slice (some ⟨b0,0,none⟩) 3 cb)∧Z.cell? ⟨b0,3,none⟩=some (.int .i64 x1.tgt)∧Z.frozen? ⟨b0,3,none⟩=false):=Lib.hid fun Z hZ=>by
    have hN:=HN3.out.keep hZ
    have hs:=HS3.out.below hZ HS3.out.lt
    obtain ⟨q1,q2⟩:=own_nth (show Mem.Own oV Z B 62 (.slice (some ⟨gr,0,none⟩) s kr) us from hN.own) HK.out.1
    have hk2:=HK.out.2.2.below' hZ
    rw [eu] at q1 hk2
    obtain ⟨g',e',_,ha⟩:=ownK_elem ceL_len hk2 1 (by simp)
    cases e'
    exact ⟨by rw [hs.cell?];rfl,q1,ha 0 (by simp [ceL]),ownK_frozen hk2 3⟩
   clear hu hr hk
   go_upto_region 6 with (fail)
   refine region_headsT (S:=fun Z=>Below W3.heap.size W3 Z) 8 rfl (by kernel_rfl) (Below.refl _ _).drew fun hS=> ?_
   refine tk 0 33 (.pointer (some ⟨n8,1,none⟩)) hS ?_
   refine tk 1 34 (.slice (some ⟨gr,0,none⟩) s kr) hS ?_ rfl (qi fun W' h=>by have q:=(HF.out W' h).1;go_simp)
   refine tk 2 35 (.int .i64 ((s:Int) - 1)) hS ?_
   refine tk 3 36 (.pointer (some ⟨gr,s - 1,none⟩)) hS ?_ rfl yg
   refine tk 4 37 (.slice (some ⟨b0,0,none⟩) 3 cb) hS ?_ rfl (qi fun W' h=>by have q:=(HF.out W' h).2.1;go_simp)
   refine tk 5 38 (.pointer (some ⟨n8,1,none⟩)) hS ?_
   refine tk 6 39 (.slice (some ⟨gr,0,none⟩) s kr) hS ?_ rfl (qi fun W' h=>by have q:=(HF.out W' h).1;go_simp)
   refine tk 7 40 (.int .i64 (s:Int)) hS ?_
   refine headsT_tail (by kernel_rfl) ?_
   simp only [List.drop]
   obtain ⟨-, -,k3,f3⟩:=HF.out _ hS
   have hN:=HN3.out.keep hS
   have hs:=HS3.out.below hS HS3.out.lt
   have hk2:=HK.out.2.2.below' hS
   rw [eu] at hk2
   have hkn:=ownK_setC hk2 1 x1 ⟨(s:Int),x1.act,x1.b⟩ 0 (oi (s:Int)) rfl (by omega) rfl
   have hNc:=hN.chgRow HK.out.1 (by rw [eu];exact hk2) (by rw [eu];rfl) (grown_one _ b0 3 (.int .i64 (s:Int))) (by rw [eu];exact hkn)
   have hBad:BadAt w (W3.drew.setCell ⟨b0,3,none⟩ (.int .i64 (s:Int))) n8:=BadAt.of hNc rfl (by rw [List.length_set];exact hrl) hel (hs.set_other (Ne.symm hbn0) _ _) (bad_row (x:=⟨(s:Int),x1.act,x1.b⟩) (mem_set (by rw [hrl];omega) _) (by simp) (by
    show Ce.bad (rows.set (s - 1) _).length _=true
    rw [List.length_set,hrl]
    unfold Ce.bad
    exact decide_eq_true (.inr (.inl (Int.le_refl _))))) hNc.low
   have HBD:=Lib.hid hBad
   clear hN hs hk2 hkn hNc hBad HF HK hS HROW
   go_wp2_with fail
   go_meet
   exact HBD.out
  ·
   obtain ⟨u,b0,cb,r,x0,x1,x2,hu,eu,rfl,hr,hk,hbn0,hbl⟩:=HROW.out (s - 1) (by omega)
   obtain ⟨k1, -⟩:=own_nth (show Mem.Own oV W3 B 62 (.slice (some ⟨gr,0,none⟩) s kr) us from HN3.out.own) hu
   rw [eu] at k1 hk
   obtain ⟨g',e',_,ha⟩:=ownK_elem ceL_len hk 2 (by simp)
   cases e'
   have k3:W3.cell? ⟨b0,7,none⟩=some (.int .i64 x2.act):=ha 1 (by simp [ceL])
   have f3:=ownK_frozen hk 7
   have hkn:=ownK_setC hk 2 x2 ⟨x2.tgt,4,x2.b⟩ 1 (oi 4) rfl (by omega) rfl
   have hNc:=HN3.out.chgRow hu (by rw [eu];exact hk) (by rw [eu];rfl) (grown_one _ b0 7 (.int .i64 4)) (by rw [eu];exact hkn)
   have hBad:BadAt w (W3.setCell ⟨b0,7,none⟩ (.int .i64 4)) n8:=BadAt.of hNc rfl (by rw [List.length_set];exact hrl) hel (HS3.out.set_other (Ne.symm hbn0) _ _) (bad_row (x:=⟨x2.tgt,4,x2.b⟩) (mem_set (by rw [hrl];omega) _) (by simp) (by unfold Ce.bad;exact decide_eq_true (.inr (.inr (.inr (.inl (by show (3:Int)<4;decide))))))) hNc.low
   have HBD:=Lib.hid hBad
   have hsl:((s:Int) - 1)<(s:Int):=by omega
   have hsg:¬((s:Int) - 1<0):=by omega
   clear hu hr hk hkn hNc hBad HROW ha
   go_wp2_with fail
   go_meet
   exact HBD.out
  ·
   obtain ⟨u,b0,cb,r,x0,x1,x2,hu,eu,rfl,hr,hk,hbn0,hbl⟩:=HROW.out 0 (by omega)
   obtain ⟨k1, -⟩:=own_nth (show Mem.Own oV W3 B 62 (.slice (some ⟨gr,0,none⟩) s kr) us from HN3.out.own) hu
   rw [eu] at k1 hk
   have hz0:(0:Int)<(s:Int):=by omega
   have hz1:¬s=0:=by omega
   have hdv:0≤xv / 7∧xv / 7≤36:=by omega
   obtain ⟨z,Hz,Hz2⟩:∃z:Ce,Hid (z=⟨0,0,UInt8.ofNat (1+xv / 7).toNat⟩)∧Hid ((z.b.toNat:Int)=1+xv / 7):=⟨_,Lib.hid rfl,Lib.hid (by simp;omega)⟩
   have HCL:Hid ((#[.int .i64 0, .int .i64 0, .int .u8 (1+xv / 7)]:Array Value)=((ceL z).map oV).toArray):=Lib.hid (by
    rw [← Hz2.out,Hz.out];rfl)
   have HU:=Lib.hid (And.intro hu (And.intro hr hk))
   clear hu hr
   go_wp2_with ((with_reducible refine store_elem (l:=[x0,x1,x2]) (C:= #[.int .i64 0, .int .i64 0, .int .u8 (1+xv / 7)]) aggCe ceL_len (.tmp 62) (.tmp 61) ?_ ?_ b0 3 cb 0 0 rfl ?_ z HCL.out ?_ hk ?_ ?_);rfl;rfl;rfl;rfl;(simp);(intro W5 hO5 hG5);refine Pause.back ?_)
   have hNc:=HN3.out.chgRow HU.out.1 (by rw [eu];exact HU.out.2.2) (by rw [eu];rfl) hG5 (by rw [eu];exact hO5)
   have hBad:BadAt w W5 n8:=BadAt.of hNc rfl (by rw [List.length_set];exact hrl) hel (HS3.out.grown hG5 (fun e=>by injection e with e;exact hbn0 e.symm)) (bad_row (x:=z) (mem_set (by rw [hrl];omega) _) (by simp) (by
    unfold Ce.bad
    refine decide_eq_true (.inr (.inr (.inr (.inr ⟨by rw [Hz.out];exact (by decide:(0:Int)≠2),by rw [Hz2.out];omega⟩)))))) hNc.low
   have HBD:=Lib.hid hBad
   clear hNc hBad hO5 hG5 hk HU HROW k1
   refine Pause.out ?_
   go_wp2_with fail
   go_meet
   exact HBD.out
  ·
   have q2':W3.cell? ⟨n8,2,none⟩=some (.slice pe s ke):=q2
   have hO:Mem.Own Value.bool W3 B 4 (.slice pe s ke) ends:=HN3.out.ends
   have hbz:B≤W3.heap.size:=HN3.out.lo.2.2
   go_upto_region 12 with (fail)
   obtain ⟨E,HE⟩:∃E,Hid (E=ends++[true]):=⟨_,Lib.hid rfl⟩
   have hEl:E.length=s+1:=by rw [HE.out,List.length_append,hel];rfl
   go_upto_region 13 with (at_builtin;(with_reducible refine append_one eltNB (.tmp 66) (.tmp 67) ?_ ?_ bV_one ?_ hO true _ ?_ _ ?_ ?_ ?_ ?_ E ?_ ?_);rfl;rfl;rfl;rfl;rfl;(rw [hel];omega);(rw [hel];omega);(exact hbz);(exact HE.out.symm);(intro p5 c5 W5 hO5 hB5 hG5);refine Pause.back ?_)
   rw [hEl] at hO5
   have hal:Below W3.heap.size W3 (W3.alloc (.cells #[.bool true] 4)):=(Below.refl _ _).alloc (Nat.le_refl _) _
   have hN4:=(HN3.out.keep hal).chgEnds (ve':=⟨.slice p5 (s+1) c5,rfl⟩) hG5 hO5
   have hne:∀k,(Value.slice pe s ke).ownBlock=some k→k≠n8:=fun k hk=>own_ne_row HN3.out.endsT HS3.out (by decide) k hk
   have hs4:=(HS3.out.below hal HS3.out.lt).grown hG5 (fun e=>hne n8 e.symm rfl)
   have e5:W5.cell? ⟨n8,2,none⟩=some (.slice pe s ke):=by rw [hs4.cell?];rfl
   have f5:=hs4.frozen 2
   have hs5:=hs4.set 2 ⟨.slice p5 (s+1) c5,rfl⟩
   have hN5:=hN4.var hs4 hgn (by have:=HN3.out.lo.1;have:=HN3.out.lo.2.1;omega) (grown_one W5 n8 2 (.slice p5 (s+1) c5))
   have hBad:BadAt w (W5.setCell ⟨n8,2,none⟩ (.slice p5 (s+1) c5)) n8:=BadAt.of hN5 rfl hrl hEl hs5 (bad_ends (by show E.length≠rows.length;rw [hEl,hrl];omega)) hN5.low
   have HBD:=Lib.hid hBad
   clear hO hal hN4 hs4 hs5 hN5 hBad hO5 hB5 hG5 HROW
   refine Pause.out ?_
   go_wp2_with fail
   go_meet
   exact HBD.out
  ·
   have hoc:=rowOwnK (cs:=[clOo,clOa,clOb]) HN3.out.cls rfl
   have HF:Hid (∀Z,Below W3.heap.size W3 Z→Z.cell? ⟨n8,0,none⟩=some (.slice (some ⟨g,0,none⟩) 3 3)∧At oV Z g 8 (clL clOb)):=Lib.hid fun Z hZ=>by
    have hs:=HS3.out.below hZ HS3.out.lt
    obtain ⟨g',e',_,ha⟩:=ownK_elem clL_len4 (hoc.below' hZ) 2 (by simp)
    cases e'
    exact ⟨by rw [hs.cell?];rfl,ha⟩
   obtain ⟨CK,HCK⟩:∃C,Hid (C=((clL clOb).map oV).toArray):=⟨_,Lib.hid rfl⟩
   go_upto_region 14 with (fail)
   refine region_headsT (S:=fun Z=>Below W3.heap.size W3 Z) 6 rfl (by kernel_rfl) (Below.refl _ _).drew fun hS=> ?_
   refine tk 0 72 (.pointer (some ⟨n8,0,none⟩)) hS ?_
   refine tk 1 73 (.slice (some ⟨g,0,none⟩) 3 3) hS ?_ rfl (qi fun W' h=>by have q:=(HF.out W' h).1;go_simp)
   refine tk 2 74 (.pointer (some ⟨n8,0,none⟩)) hS ?_
   refine tk 3 75 (.slice (some ⟨g,0,none⟩) 3 3) hS ?_ rfl (qi fun W' h=>by have q:=(HF.out W' h).1;go_simp)
   refine tk 4 76 (.pointer (some ⟨g,8,none⟩)) hS ?_ rfl yg
   refine tk 5 77 (.agg CK) hS ?_ rfl (yieldsIf_load (f:=oV) (l:=clL clOb) aggCl (.tmp 76) rfl g 8 rfl (fun W' h=>(HF.out W' h).2) HCK.out rfl)
   refine headsT_tail (by kernel_rfl) ?_
   simp only [List.drop]
   have hN:=HN3.out.keep hS
   have hs:=HS3.out.below hS HS3.out.lt
   have hoK:=hoc.below' hS
   have HK:=Lib.hid (And.intro hN hs)
   clear hN hs hS HF HROW hoc
   generalize W3.drew=WD at *
   go_wp2_with ((with_reducible refine store_elem (l:=[clOo,clOa,clOb]) (C:=CK) aggCl clL_len4 (.tmp 78) (.tmp 77) ?_ ?_ g 3 3 1 4 rfl ?_ clOb HCK.out ?_ hoK ?_ ?_);rfl;rfl;rfl;rfl;(simp);(intro W5 hO5 hG5);refine Pause.back ?_)
   have hNc:=HK.out.1.nzCls hG5 (OwnK.rd hO5 clL_len4)
   have hBad:BadAt w W5 n8:=⟨some ⟨g,0,none⟩,_,_,3,_,_,⟨[clOo,clOb,clOb],rows,ends⟩,by
    show Row oV W5 n8 _ [_,⟨.slice _ rows.length _,rfl⟩,⟨.slice _ ends.length _,rfl⟩]
    simp only [hrl,hel]
    exact HK.out.2.grown hG5 (fun e=>by injection e with e;exact hgn e.symm),by
    show NzAt W5 (.agg #[_, .slice _ rows.length _, .slice _ ends.length _]) _
    rw [hrl,hel]
    exact hNc,bad_cls rfl,HK.out.1.low.grown hG5 HK.out.1.low.size (fun k e=>by injection e with e;have:=HK.out.1.lo.2.1;omega)⟩
   have HBD:=Lib.hid hBad
   clear hNc hBad hO5 hG5 hoK
   refine Pause.out ?_
   go_wp2_with fail
   go_meet
   exact HBD.out
  ·
   obtain ⟨u,b0,cb,r,x0,x1,x2,hu,eu,rfl,hr,hk,hbn0,hbl⟩:=HROW.out 0 (by omega)
   have hcb:3≤cb:=by
    rw [eu] at hk
    obtain ⟨_,_,e,h3,_⟩:=ownsRow_sl hk (by simp)
    cases e;exact h3
   have HK:=Lib.hid (And.intro hu (And.intro hr hk))
   have HF:Hid (∀Z,Below W3.heap.size W3 Z→Z.cell? ⟨n8,1,none⟩=some (.slice (some ⟨gr,0,none⟩) s kr)∧Z.cell? ⟨gr,0,none⟩=some (.slice (some ⟨b0,0,none⟩) 3 cb)∧Z.frozen? ⟨gr,0,none⟩=false):=Lib.hid fun Z hZ=>by
    have hN:=HN3.out.keep hZ
    have hs:=HS3.out.below hZ HS3.out.lt
    obtain ⟨q1,q2⟩:=own_nth (show Mem.Own oV Z B 62 (.slice (some ⟨gr,0,none⟩) s kr) us from hN.own) HK.out.1
    rw [eu] at q1
    exact ⟨by rw [hs.cell?];rfl,q1,q2⟩
   clear hu hr hk
   have hz0:(0:Int)<(s:Int):=by omega
   have hz1:¬s=0:=by omega
   have hc2:¬((cb:Int)<2):=by omega
   go_upto_region 16 with (fail)
   refine region_headsT (S:=fun Z=>Below W3.heap.size W3 Z) 7 rfl (by kernel_rfl) (Below.refl _ _).drew fun hS=> ?_
   refine tk 0 81 (.pointer (some ⟨n8,1,none⟩)) hS ?_
   refine tk 1 82 (.slice (some ⟨gr,0,none⟩) s kr) hS ?_ rfl (qi fun W' h=>by have q:=(HF.out W' h).1;go_simp)
   refine tk 2 83 (.pointer (some ⟨n8,1,none⟩)) hS ?_
   refine tk 3 84 (.slice (some ⟨gr,0,none⟩) s kr) hS ?_ rfl (qi fun W' h=>by have q:=(HF.out W' h).1;go_simp)
   refine tk 4 85 (.pointer (some ⟨gr,0,none⟩)) hS ?_ rfl yg
   refine tk 5 86 (.slice (some ⟨b0,0,none⟩) 3 cb) hS ?_ rfl (qi fun W' h=>by have q:=(HF.out W' h).2.1;go_simp)
   refine tk 6 87 (.slice (some ⟨b0,0,none⟩) 2 cb) hS ?_ rfl yg
   refine headsT_tail (by kernel_rfl) ?_
   simp only [List.drop]
   obtain ⟨k1,k2,f2⟩:=HF.out _ hS
   have hN:=HN3.out.keep hS
   have hs:=HS3.out.below hS HS3.out.lt
   have hk2:=HK.out.2.2.below' hS
   rw [eu] at hk2
   obtain ⟨g',e',hlt',ha0⟩:=ownK_elem ceL_len hk2 0 (by simp)
   cases e'
   obtain ⟨g',e', -,ha1⟩:=ownK_elem ceL_len hk2 1 (by simp)
   cases e'
   have hT:W3.drew.ownsRow B 62 1 (.slice (some ⟨gr,0,none⟩) s kr) us.length (us.map oV):=hN.rowsT
   rw [Hs.out] at hT
   have hblk:∀{e:TypeId} {size n:Nat} {v:Value} {xs:List Value},e≠62→W3.drew.ownsRow B e size v n xs→(W3.drew.setCell ⟨gr,0,none⟩ (.slice (some ⟨b0,0,none⟩) 2 cb)).ownsRow B e size v n xs:=fun he hx=>ownsRow_keep hx fun k hk _=>Below.heap_setCell _ _ _ _ (fun e=>own_ne_own hx hN.rowsT he k hk gr rfl e)
   have hgB:=(World.ownsRow.lt hT gr rfl).1
   have hgB2:=hN.lo.1
   have hset:=ownsRow_set hT 0 (.slice (some ⟨b0,0,none⟩) 2 cb)
   have ho:Mem.Own oV (W3.drew.setCell ⟨gr,0,none⟩ (.slice (some ⟨b0,0,none⟩) 2 cb)) B 62 (.slice (some ⟨gr,0,none⟩) s kr) (us.set 0 ⟨.slice (some ⟨b0,0,none⟩) 2 cb,rfl⟩):=by
    show World.ownsRow _ B 62 1 _ (us.set 0 _).length ((us.set 0 _).map oV)
    rw [List.length_set,Hs.out,List.map_set]
    exact hset
   have hb0g:b0≠gr:=own_ne_own hk2 hN.rowsT (by decide) b0 rfl gr rfl
   have hG:=grown_one W3.drew gr 0 (.slice (some ⟨b0,0,none⟩) 2 cb)
   have hrd:RdK 3 ceL (W3.drew.setCell ⟨gr,0,none⟩ (.slice (some ⟨b0,0,none⟩) 2 cb)) (.slice (some ⟨b0,0,none⟩) 2 cb) [x0,x1]:= .inr ⟨b0,0,cb,rfl,by show 2≤cb;omega,fun i hi=>by
    have hbb:some b0≠some gr:=fun e=>by injection e with e;exact hb0g e
    match i,hi with
    | 0,_=>exact ha0.grown hG hlt' hbb
    | 1,_=>exact ha1.grown hG hlt' hbb,Nat.lt_of_lt_of_le hlt' hG.size⟩
   have heach:=f2_setx (S:=fun (u:OC) (r:List Ce)=>RdK 3 ceL (W3.drew.setCell ⟨gr,0,none⟩ (.slice (some ⟨b0,0,none⟩) 2 cb)) u.1 r) (a:=⟨.slice (some ⟨b0,0,none⟩) 2 cb,rfl⟩) 0 hrd hN.each fun j q y _ _ _ d=>OwnK.rd (show OwnK 3 ceL _ B 61 _ _ from hblk (by decide) d) ceL_len
   have hen:Mem.Own Value.bool (W3.drew.setCell ⟨gr,0,none⟩ (.slice (some ⟨b0,0,none⟩) 2 cb)) B 4 (.slice pe s ke) ends:=hblk (by decide) hN.endsT
   have hcl:RdK 4 clL (W3.drew.setCell ⟨gr,0,none⟩ (.slice (some ⟨b0,0,none⟩) 2 cb)) (.slice (some ⟨g,0,none⟩) 3 3) [clOo,clOa,clOb]:=RdK.row (K:=4) (enc:=clL) (l:=[clOo,clOa,clOb]) (hN.cls.grown hG (fun e=>by injection e with e;omega)) rfl (fun _ _=>rfl)
   have hrl2:(rows.set 0 [x0,x1]).length=s:=by rw [List.length_set];exact hrl
   have hBad:BadAt w (W3.drew.setCell ⟨gr,0,none⟩ (.slice (some ⟨b0,0,none⟩) 2 cb)) n8:=⟨some ⟨g,0,none⟩,some ⟨gr,0,none⟩,pe,3,kr,ke,⟨[clOo,clOa,clOb],rows.set 0 [x0,x1],ends⟩,by
    show Row oV _ n8 _ [_,⟨.slice _ (rows.set 0 [x0,x1]).length _,rfl⟩,⟨.slice _ ends.length _,rfl⟩]
    simp only [hrl2,hel]
    exact hs.grown hG (fun e=>by injection e with e;exact hrn e.symm),by
    show NzAt _ (.agg #[_, .slice _ (rows.set 0 [x0,x1]).length _, .slice _ ends.length _]) _
    rw [hrl2,hel]
    exact ⟨_,_,_,rfl,hcl,rdR_of (vr:=⟨.slice (some ⟨gr,0,none⟩) s kr,rfl⟩) ho.rd heach,hen.rd⟩,bad_len (mem_set (by rw [hrl];omega) _) (by simp),hN.low.grown hG hN.low.size (fun k e=>by injection e with e;have:=hN.lo.2.1;omega)⟩
   have HBD:=Lib.hid hBad
   clear hN hs hk2 ha0 ha1 hT hblk hset ho hrd heach hen hcl hBad HF HK hS HROW hG
   go_wp2_with fail
   go_meet
   exact HBD.out
  ·
   have f1:=HS3.out.frozen 1
   have f2:=HS3.out.frozen 2
   have hs:=(HS3.out.set 1 on).set 2 on
   have hN:=HN3.out.var HS3.out hgn (by have:=HN3.out.lo.1;have:=HN3.out.lo.2.1;omega) (grown_set (grown_one W3 n8 1 (.slice none 0 0)) 2 (.slice none 0 0))
   have hBad:BadAt w ((W3.setCell ⟨n8,1,none⟩ (.slice none 0 0)).setCell ⟨n8,2,none⟩ (.slice none 0 0)) n8:=⟨some ⟨g,0,none⟩,none,none,3,0,0,⟨[clOo,clOa,clOb],[],[]⟩,hs,⟨_,_,_,rfl,(RdK.row (K:=4) (enc:=clL) (l:=[clOo,clOa,clOb]) hN.cls rfl (fun _ _=>rfl)), .inl ⟨none,rfl,rfl⟩, .inl ⟨none,rfl,rfl⟩⟩,bad_none rfl,hN.low⟩
   have HBD:=Lib.hid hBad
   clear hs hN hBad HROW
   go_wp2_with fail
   go_meet
   exact HBD.out
 case rest=>
  obtain ⟨vc,vr,ve,kc,kq,ke',N,hrow,hnz,hval,hlow⟩:=hcut
  have hTc:=HTT.out.1.below hlow HTT.out.2
  have htc:1<wc.heap.size:=Nat.lt_of_lt_of_le HTT.out.2 hlow.size
  clear HROW HN3 HS3 HR3 Hs q1 q2 hwr hs0 hrn hgn hrl hel
  have hn8c:=hrow.lt
  have HZ:=Lib.hid (And.intro hrow (And.intro hnz (And.intro hval hlow)))
  clear hrow hnz hval hlow
  go_wp2_with fail
  refine (rSmallE wc xv hx0 hTc htc).mono ?_
  rintro e WA ⟨sa,ba,rfl,hpA,hBA⟩
  have hTA:=hTc.below hBA htc
  have htA:1<WA.heap.size:=Nat.lt_of_lt_of_le htc hBA.size
  have HPA:=Lib.hid (And.intro hpA trivial)
  clear hpA hTc htc
  go_wp2_with fail
  refine (rSmallE WA 0 (by omega) hTA htA).mono ?_
  rintro e WB ⟨sb,bb,rfl,hpB,hBB⟩
  have HPB:=Lib.hid (And.intro hpB trivial)
  clear hpB hTA htA
  have kcv:=fun (w:World) (C:Array Value) (n c:Nat)=>Lib.run_convert_bytes_const (P:=Tryz.prog) w 22 5 C n c Tryz.underlying22 Tryz.underlying5
  go_upto_region 21 with (fail)
  obtain ⟨WQ,hWQ,hBQ,gq⟩:∃W,((WB.alloc (.cells #[.int .u8 97, .int .u8 98] 5 (2,3))).alloc (.cells #[.slice sa.p sa.n sa.c, .slice ba.p ba.n ba.c, .slice sb.p sb.n sb.c, .slice bb.p bb.n bb.c, .slice (some ⟨WB.heap.size,0,none⟩) 2 2, .int .i64 1] 32))=W∧Below WB.heap.size WB W∧Row oV W (WB.heap.size+1) 32 [⟨.slice sa.p sa.n sa.c,rfl⟩,⟨.slice ba.p ba.n ba.c,rfl⟩,⟨.slice sb.p sb.n sb.c,rfl⟩,⟨.slice bb.p bb.n bb.c,rfl⟩,⟨.slice (some ⟨WB.heap.size,0,none⟩) 2 2,rfl⟩,oi 1]:=by
   refine ⟨_,rfl,below_al (below_al (Below.refl _ _) (Nat.le_refl _) _) (Nat.le_refl _) _,?_⟩
   all_goals repeat (first | (refine heap_new' _ _ _ ?_;(simp;done)) | (refine (Below.heap_alloc _ _ _ ?_).trans ?_;·(simp<;>omega)))
  rw [hWQ]
  clear hWQ
  have hcQ:=(hBA.trans (hBB.mono hBA.size)).trans (hBQ.mono (Nat.le_trans hBA.size hBB.size))
  have hFA:=(HPA.out.1.below hBB).below hBQ
  have hFB:=HPB.out.1.below hBQ
  have h8:=HZ.out.1.below hcQ hn8c
  have hV:=HZ.out.2.1.below hcQ
  have hlow:=HZ.out.2.2.2.trans (hcQ.mono HZ.out.2.2.2.size)
  have hu:=HR2.out.below hlow
  have hv0:=HZ.out.2.2.1
  have hn8q:n8<WQ.heap.size:=h8.lt
  have hq10:WB.heap.size+1<WQ.heap.size:=gq.lt
  have hRA:=HPA.out.2
  have hRB:=HPB.out.2
  clear hcQ hBA hBB hBQ HZ HPA HPB HTT kcv hn8c
  have hG:Hid (N.valid=false∧True∧True∧b.length≤140737488351232):=Lib.hid ⟨hv0,trivial,trivial,hbn⟩
  have HF:Hid (∀Z:World,Below WQ.heap.size WQ Z→Row oV Z n8 37 [⟨.slice vc N.cls.length kc,rfl⟩,⟨.slice vr N.rows.length kq,rfl⟩,⟨.slice ve N.ends.length ke',rfl⟩]∧Row oV Z (WB.heap.size+1) 32 [⟨.slice sa.p sa.n sa.c,rfl⟩,⟨.slice ba.p ba.n ba.c,rfl⟩,⟨.slice sb.p sb.n sb.c,rfl⟩,⟨.slice bb.p bb.n bb.c,rfl⟩,⟨.slice (some ⟨WB.heap.size,0,none⟩) 2 2,rfl⟩,oi 1]∧NzAt Z (.agg #[.slice vc N.cls.length kc, .slice vr N.rows.length kq, .slice ve N.ends.length ke']) N∧Rd u8V Z (.slice p2 b.length c2) b∧Ev.CkAt Z (.agg #[sa.v,ba.v])∧Ev.CkAt Z (.agg #[sb.v,bb.v])):=Lib.hid fun Z hZ=>⟨h8.below hZ hn8q,gq.below hZ hq10,hV.below hZ,hu.below hZ,hFA.below hZ,hFB.below hZ⟩
  clear h8 gq hV hu hFA hFB hv0 hRA hRB
  have HL:=Lib.hid hlow
  clear hlow
  obtain ⟨qb,Hqb⟩:∃q,Hid (WB.heap.size=q):=⟨_,Lib.hid rfl⟩
  rw [Hqb.out] at HF hq10 ⊢
  clear Hqb
  have hb0:Below WQ.heap.size WQ WQ:=Below.refl _ _
  have r8:=(HF.out _ hb0).1
  go_wp2_with ((with_reducible refine zL r8.at aggNz rfl (C:=#[.slice vc N.cls.length kc, .slice vr N.rows.length kq, .slice ve N.ends.length ke']) ?_))
  have hc:=nRunI WQ N vc vr ve p2 kc kq ke' c2 b (HF.out _ hb0).2.2.1 hG.out.1 (HF.out _ hb0).2.2.2.1 hG.out.2.2.2
  rw [Hbl.out] at hc
  refine hc.mono ?_
  clear hc hb0 r8
  rintro e Z1 ⟨rfl,hb1⟩
  have r8:=(HF.out _ hb1).1
  go_wp2_with ((with_reducible refine zL r8.at aggNz rfl (C:=#[.slice vc N.cls.length kc, .slice vr N.rows.length kq, .slice ve N.ends.length ke']) ?_))
  have hc:=nFeedI Z1 N vc vr ve p2 kc kq ke' c2 b (HF.out _ hb1).2.2.1 hG.out.1 (HF.out _ hb1).2.2.2.1 hG.out.2.2.2
  rw [Hbl.out] at hc
  refine hc.mono ?_
  clear hc r8
  rintro e Z2 ⟨rfl,hb2⟩
  replace hb2:=hb1.trans (hb2.mono hb1.size)
  clear hb1
  have hzS:Row oV (Z2.alloc (.cells #[.int .i64 0, .bool false] 48)) Z2.heap.size 48 [oi 0,ob false]:=Row.new _ _ rfl
  have hba:Below Z2.heap.size Z2 (Z2.alloc (.cells #[.int .i64 0, .bool false] 48)):=(Below.refl _ _).alloc (Nat.le_refl _) _
  go_upto_region 23 with ((with_reducible refine zS (l':=[oi 0,ob false]) hzS aggNS2 ?_);(intro Z3 hs3 hG3 hz3))
  have hb3:Below WQ.heap.size WQ Z3:=hb2.trans ((hba.grown hG3 hba.size (fun k e=>by cases e;exact Nat.le_refl _)).mono hb2.size)
  have hn13:=hs3.lt
  clear hzS hba hG3 hz3
  have h13q:WQ.heap.size≤Z2.heap.size:=hb2.size
  clear hb2
  obtain ⟨n13,Hn13⟩:∃q,Hid (Z2.heap.size=q):=⟨_,Lib.hid rfl⟩
  rw [Hn13.out] at hs3 hn13 h13q ⊢
  clear Hn13 Z2
  have HS:=Lib.hid hs3
  clear hs3
  have r8:=(HF.out _ hb3).1
  go_wp2_with ((with_reducible refine zL r8.at aggNz rfl (C:=#[.slice vc N.cls.length kc, .slice vr N.rows.length kq, .slice ve N.ends.length ke']) ?_))
  refine (nTransI Z3 N vc vr ve kc kq ke' (HF.out _ hb3).2.2.1 hG.out.1).mono ?_
  clear r8
  rintro e Z4 ⟨rfl,hb4⟩
  have hS4:=HS.out.below hb4 hn13
  replace hb4:=hb3.trans (hb4.mono hb3.size)
  clear hb3 HS hn13
  have hzS:Row oV (Z4.alloc (.cells #[.slice none 0 0, .slice none 0 0, .slice none 0 0, .slice none 0 0] 70)) Z4.heap.size 70 [on,on,on,on]:=Row.new _ _ rfl
  have hba:Below Z4.heap.size Z4 (Z4.alloc (.cells #[.slice none 0 0, .slice none 0 0, .slice none 0 0, .slice none 0 0] 70)):=(Below.refl _ _).alloc (Nat.le_refl _) _
  go_upto_region 24 with ((with_reducible refine zS (l':=[on,on,on,on]) hzS aggTr4 ?_);(intro Z5 hs5 hG5 hz5))
  have hb45:=hba.grown hG5 hba.size (fun k e=>by cases e;exact Nat.le_refl _)
  have hb5:Below WQ.heap.size WQ Z5:=hb4.trans (hb45.mono hb4.size)
  have hS5:=hS4.below hb45 hS4.lt
  clear hzS hba hG5 hz5 hS4 hb4 hb45
  obtain ⟨n15,Hn15⟩:∃q,Hid (Z4.heap.size=q):=⟨_,Lib.hid rfl⟩
  rw [Hn15.out] at hs5 ⊢
  clear Hn15 Z4
  have HS:Hid (∀Z,Below Z5.heap.size Z5 Z→Row oV Z n13 48 [oi 0,ob false]∧Row oV Z n15 70 [on,on,on,on]):=Lib.hid fun Z hZ=>⟨hS5.below hZ hS5.lt,hs5.below hZ hs5.lt⟩
  clear hS5 hs5
  have r8:=(HF.out _ hb5).1
  have r10:=(HF.out _ hb5).2.1
  go_wp2_with (first | ((with_reducible refine zL r8.at aggNz rfl (C:=#[.slice vc N.cls.length kc, .slice vr N.rows.length kq, .slice ve N.ends.length ke']) ?_)) | ((with_reducible refine zL r10.at aggQu rfl (C:=#[.slice sa.p sa.n sa.c, .slice ba.p ba.n ba.c, .slice sb.p sb.n sb.c, .slice bb.p bb.n bb.c, .slice (some ⟨qb,0,none⟩) 2 2, .int .i64 1]) ?_)))
  refine (nMeetsBadE Z5 N vc vr ve kc kq ke' (HF.out _ hb5).2.2.1 hG.out.1 sa ba sb bb (HF.out _ hb5).2.2.2.2.1 (HF.out _ hb5).2.2.2.2.2 (some ⟨qb,0,none⟩) 2 2 1).mono ?_
  clear r8 r10
  rintro e Z6 ⟨rfl,hb6⟩
  have r8:=(HF.out _ (hb5.trans (hb6.mono hb5.size))).1
  have r10:=(HF.out _ (hb5.trans (hb6.mono hb5.size))).2.1
  have ra:At oV Z6 (qb+1) 4 [⟨.slice (some ⟨qb,0,none⟩) 2 2,rfl⟩,oi 1]:=fun i hi=>by
   match i,hi with
   | 0,_=>rw [r10.cell?];rfl
   | 1,_=>rw [r10.cell?];rfl
  clear r10
  go_wp2_with (first | ((with_reducible refine zL r8.at aggNz rfl (C:=#[.slice vc N.cls.length kc, .slice vr N.rows.length kq, .slice ve N.ends.length ke']) ?_)) | ((with_reducible refine zL ra aggSc rfl (C:=#[.slice (some ⟨qb,0,none⟩) 2 2, .int .i64 1]) ?_)))
  refine (nRefI Z6 N vc vr ve kc kq ke' (HF.out _ (hb5.trans (hb6.mono hb5.size))).2.2.1 hG.out.1 (some ⟨qb,0,none⟩) 2 2 1).mono ?_
  clear r8 ra
  rintro e Z7 ⟨rfl,hb7⟩
  replace hb7:=hb6.trans (hb7.mono hb6.size)
  replace HS:=Lib.hid fun Z (hZ:Below Z7.heap.size Z7 Z)=>HS.out Z (hb7.trans (hZ.mono hb7.size))
  replace HF:=Lib.hid fun Z (hZ:Below Z7.heap.size Z7 Z)=>HF.out Z ((hb5.trans (hb7.mono hb5.size)).trans (hZ.mono (Nat.le_trans hb5.size hb7.size)))
  replace HL:=Lib.hid (HL.out.trans ((hb5.trans (hb7.mono hb5.size)).mono HL.out.size))
  clear hb5 hb6 hb7
  go_upto_region 26 with (fail)
  have r8:=(HF.out Z7 (Below.refl _ _)).1
  have q0:Z7.cell? ⟨n8,0,none⟩=some (.slice vc N.cls.length kc):=by rw [r8.cell?];rfl
  have q1:Z7.cell? ⟨n8,1,none⟩=some (.slice vr N.rows.length kq):=by rw [r8.cell?];rfl
  have q2:Z7.cell? ⟨n8,2,none⟩=some (.slice ve N.ends.length ke'):=by rw [r8.cell?];rfl
  clear r8
  go_wp2_with fail
  refine (nValid Z7 _ N (HF.out Z7 (Below.refl _ _)).2.2.1).mono ?_
  clear q0 q1 q2
  rintro e Z8 ⟨rfl,hb8⟩
  rw [hG.out.1]
  have r8:=(HF.out Z8 hb8).1
  have r13:=(HS.out Z8 hb8).1
  have r15:=(HS.out Z8 hb8).2
  have q0:Z8.cell? ⟨n8,0,none⟩=some (.slice vc N.cls.length kc):=by rw [r8.cell?];rfl
  have q1:Z8.cell? ⟨n8,1,none⟩=some (.slice vr N.rows.length kq):=by rw [r8.cell?];rfl
  have q2:Z8.cell? ⟨n8,2,none⟩=some (.slice ve N.ends.length ke'):=by rw [r8.cell?];rfl
  have q3:Z8.cell? ⟨n13,0,none⟩=some (.int .i64 0):=by rw [r13.cell?];rfl
  have q4:Z8.cell? ⟨n13,1,none⟩=some (.bool false):=by rw [r13.cell?];rfl
  have q15:Z8.cell? ⟨n15,1,none⟩=some (.slice none 0 0):=by rw [r15.cell?];rfl
  clear r8 r13 r15
  go_wp2_with fail
  refine (nFinI Z8 N vc vr ve kc kq ke' (HF.out Z8 hb8).2.2.1 hG.out.1).mono ?_
  clear q0 q1 q2 q3 q4 q15
  rintro e Z9 ⟨rfl,hb9⟩
  replace HL:=Lib.hid (HL.out.trans ((hb8.trans (hb9.mono hb8.size)).mono HL.out.size))
  clear hb8 hb9 HF HS
  go_wp2_with fail
  go_ret
  exact ⟨rfl,HL.out⟩
end Go.Proofs.YtncnfncglacheaaGreatDoor
