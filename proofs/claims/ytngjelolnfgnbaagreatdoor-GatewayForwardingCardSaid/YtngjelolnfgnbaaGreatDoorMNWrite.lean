/- Part of a proof. -/
import Derived.Test.YtngjelolnfgnbaaGreatDoorMIndex
import Derived.Test.YtngjelolnfgnbaaGreatDoorMExec
import Derived.Test.YtngjelolnfgnbaaGreatDoorMStep
set_option linter.all false
set_option maxRecDepth 100000
set_option maxHeartbeats 64000000
namespace Go.Proofs.YtngjelolnfgnbaaGreatDoor
section
open Go Go.RowKit Mem
def NZ.uG (N:NZ):Prop:=∀b,∃i,i<N.cls.length∧kU N.cls b=(i:Int)
def NZ.cell (N:NZ) (k:Nat) (b:UInt8):Ce:=((N.rows[k]?.getD [])[(kU N.cls b).toNat]?).getD ⟨0,0,0⟩
def Ce.next (c:Ce):Int:=if c.act=3 then 0 else c.tgt
def Ce.refuses (c:Ce):Bool:=decide (c.act=3)
def Ce.out (c:Ce) (b:UInt8):List UInt8:=if c.act=0 then [b] else if c.act=2 then [c.b] else []
theorem EN (w0 w:World) (N:NZ) (xb k:Nat) (pc pr pe po:Option Addr) (kc kr ke ko:Nat) (l:List UInt8) (b:UInt8) (hv:dB w0 (.agg #[.slice pc N.cls.length kc, .slice pr N.rows.length kr, .slice pe N.ends.length ke]) N) (hB:Below w0.heap.size w0 w) (hxb:w0.heap.size≤xb)
  (hx:Row oV w xb 222 (qV k false (aV pc N.cls.length kc) (aV pr N.rows.length kr) (aV pe N.ends.length ke) (aV po l.length ko))) (ho:Mem.Own bg w (xb+1) 5 (.slice po l.length ko) l) (hk:k<N.rows.length) (dZ:N.uG) (hrl:N.rows[k].length=N.cls.length) (hcl:N.cls.length≤256) (hll:l.length≤140737488351232):
  Calls Tryz.prog 96 #[.pointer (some ⟨xb,0,none⟩), .int .u8 (b.toNat:Int)] w fun e w'=>e= .returned (.tuple #[])∧Below w0.heap.size w0 w'∧
   ∃Jd Jn l',Hid (l'=l++(N.cell k b).out b)∧Row oV w' xb 222 (qV (N.cell k b).next (N.cell k b).refuses (aV pc N.cls.length kc) (aV pr N.rows.length kr) (aV pe N.ends.length ke) (aV Jd l'.length Jn))∧Mem.Own bg w' (xb+1) 5 (.slice Jd l'.length Jn) l':=by
 obtain ⟨vc,vr,ve,he,h1,h2,h3⟩:=hv
 obtain ⟨rfl,rfl,rfl⟩: .slice pc N.cls.length kc=vc∧ .slice pr N.rows.length kr=vr∧ .slice pe N.ends.length ke=ve:=by
  have:=congrArg (fun v=>match v with | Value.agg a=>a.toList | _=>[]) he;simpa using this
 have HC:=af (h1.below hB);obtain ⟨rb,ro,u,rfl,hu,kM,hcr,Bc⟩:=h2.elem k hk;obtain ⟨pu,ku,rfl⟩:=kM.slice;obtain ⟨i,hil,hi⟩:=dZ b;obtain ⟨ub,uo,rfl,hce,Fb,lub⟩:=kM.elem i (by omega)
 have hcell:N.cell k b=N.rows[k][i]'(by omega):=by
  unfold NZ.cell;rw [hi,dR hk];show (N.rows[k][(i:Int).toNat]?).getD _=_;rw [show (i:Int).toNat=i by simp,dR (by omega)];rfl
 rw [← hcell] at hce;have hu':=(hB.cell (p:=⟨rb,ro+k,none⟩) Bc).trans hu;have DX:=hce.below hB lub;have IQ:=bY Bc hB.size;have IC:=bY lub hB.size;clear he h1 h2 h3 hu kM hce hcell hcr;generalize hc:N.cell k b=c at DX ⊢;clear hc;have HB:=af hB;have HO:=af ho;have hq:(k:Int)<(N.rows.length:Int):=by omega
 have hq2:(i:Int)<(N.rows[k].length:Int):=by omega
 have HX:=af hx;have HU:=af hu';have HE:=af DX;have c1:w.cell? ⟨xb,1,none⟩=some (.bool false):=by rw [hx.cell?];rfl
 have lx:=hx.lt;clear hx hu' DX hB ho;go_enter Tryz.func96,Tryz.ntmps96;go_upto_region 1 with (fail)
 have HS:Hid (∀X,Below w.heap.size w X→X.cell? ⟨xb,3,none⟩=some (.slice (some ⟨rb,ro,none⟩) N.rows.length kr)∧X.cell? ⟨xb,0,none⟩=some (.int .i64 k)∧X.cell? ⟨rb,ro+k,none⟩=some (.slice (some ⟨ub,uo,none⟩) N.rows[k].length ku)∧X.cell? ⟨xb,2,none⟩=some (.slice pc N.cls.length kc)∧At oV X ub (uo+i * 3) (dH c)):=af fun X hX=>by
  have h:=HX.out.below hX lx;exact ⟨by rw [h.cell?];rfl,by rw [h.cell?];rfl,(hX.cell (p:=⟨rb,ro+k,none⟩) IQ).trans HU.out,by rw [h.cell?];rfl,HE.out.below hX IC⟩
 go_cut [4] (fun s4 wx=>∃n4:Nat,s4= .pointer (some ⟨n4,0,none⟩)∧Row oV wx n4 98 (dH c)∧Below w.heap.size w wx∧w.heap.size≤n4)
 case first=>
  clear c1;refine aT (S:=fun X=>Below w.heap.size w X) 22 rfl (by kernel_rfl) (aI _ _).drew fun hS=> ?_;refine tk 0 10 (.pointer (some ⟨xb,0,none⟩)) hS ?_;refine tk 1 11 (.pointer (some ⟨xb,0,none⟩)) hS ?_;refine tk 2 12 (.pointer (some ⟨xb,2,none⟩)) hS ?_;refine tk 3 13 (.pointer (some ⟨xb,3,none⟩)) hS ?_;refine tk 4 14 (.slice (some ⟨rb,ro,none⟩) N.rows.length kr) hS ?_ rfl (qi fun W' h=>by obtain ⟨q0,q1,q2,q3,_⟩:=HS.out W' h;go_simp);refine tk 5 15 (.pointer (some ⟨xb,0,none⟩)) hS ?_;refine tk 6 16 (.pointer (some ⟨xb,0,none⟩)) hS ?_;refine tk 7 17 (.pointer (some ⟨xb,0,none⟩)) hS ?_;refine tk 8 18 (.pointer (some ⟨xb,0,none⟩)) hS ?_;refine tk 9 19 (.int .i64 k) hS ?_ rfl (qi fun W' h=>by obtain ⟨q0,q1,q2,q3,_⟩:=HS.out W' h;go_simp);refine tk 10 20 (.pointer (some ⟨rb,ro+k,none⟩)) hS ?_ rfl yg;refine tk 11 21 (.slice (some ⟨ub,uo,none⟩) N.rows[k].length ku) hS ?_ rfl (qi fun W' h=>by obtain ⟨q0,q1,q2,q3,_⟩:=HS.out W' h;go_simp);refine tk 12 22 (.pointer (some ⟨xb,0,none⟩)) hS ?_;refine tk 13 23 (.pointer (some ⟨xb,0,none⟩)) hS ?_;refine tk 14 24 (.pointer (some ⟨xb,2,none⟩)) hS ?_;refine tk 15 25 (.pointer (some ⟨xb,2,none⟩)) hS ?_;refine tk 16 26 (.slice pc N.cls.length kc) hS ?_ rfl (qi fun W' h=>by obtain ⟨q0,q1,q2,q3,_⟩:=HS.out W' h;go_simp);refine tk 17 27 (.int .u8 (b.toNat:Int)) hS ?_;refine jc (rs:=[18,21]) (by kernel_rfl) (by simp) (bq.cons (by omega) rfl (fun K' hK=> ?_) (bq.cons (by omega) rfl (fun K' hK=> ?_) bq.nil))
  ·refine cD 28 153 #[.slice pc N.cls.length kc, .int .u8 (b.toNat:Int)] ?_;refine (yK _ _ N.cls b (HC.out.below hS) (by omega)).mono ?_;rintro e Wb ⟨rfl,hBb⟩;replace hS:=hS.trans (hBb.mono hS.size);refine ⟨_,rfl,hK.out _ _ hS fun _=> ?_⟩;clear hK hBb;simp only [sA,sB,sC];rw [hi];refine tk 19 29 (.pointer (some ⟨ub,uo+i * 3,none⟩)) hS ?_ rfl yg;refine tk 20 30 (.agg (jo c)) hS ?_ rfl (aH (f:=oV) (l:=dH c) iq (.tmp 29) rfl ub (uo+i * 3) rfl (fun W' h=>(HS.out W' h).2.2.2.2) rfl rfl);refine mG 21 (fun K' hK=> ?_);have hZ:Row oV (Wb.alloc (.cells #[.int .i64 0, .int .i64 0, .int .u8 0] 98)) Wb.heap.size 98 [oi 0,oi 0,⟨.int .u8 0,rfl⟩]:=Row.new _ _ rfl;have jG:w.heap.size≤Wb.heap.size:=hS.size;replace hS:=hS.alloc hS.size (.cells #[.int .i64 0, .int .i64 0, .int .u8 0] 98);refine aD 4 (.cells #[.int .i64 0, .int .i64 0, .int .u8 0] 98) ?_;refine hK.out _ _ hS fun _=> ?_;clear hK;simp only [sA,sB,sC];generalize (Wb.alloc (.cells #[.int .i64 0, .int .i64 0, .int .u8 0] 98))=Wz at hS hZ ⊢;generalize Wb.heap.size=n4 at hZ jG ⊢;refine aW (by kernel_rfl) ?_;simp only [List.drop]
   go_wp2_with (first
    | ((with_reducible refine zS (l':=dH c) hZ iq ?_);(intro We hse yX Im)))
   go_meet;exact ⟨n4,rfl,hse,hS.grown yX hS.size (fun k e=>by cases e;exact jG),jG⟩
  ·generalize w.drew=Wd at hS ⊢;have hZ:Row oV (Wd.alloc (.cells #[.int .i64 0, .int .i64 0, .int .u8 0] 98)) Wd.heap.size 98 [oi 0,oi 0,⟨.int .u8 0,rfl⟩]:=Row.new _ _ rfl;have jG:w.heap.size≤Wd.heap.size:=hS.size;replace hS:=hS.alloc hS.size (.cells #[.int .i64 0, .int .i64 0, .int .u8 0] 98);refine aD 4 (.cells #[.int .i64 0, .int .i64 0, .int .u8 0] 98) ?_;refine hK.out _ _ hS fun _=> ?_;clear hK;simp only [sA,sB,sC];generalize (Wd.alloc (.cells #[.int .i64 0, .int .i64 0, .int .u8 0] 98))=Wz at hS hZ ⊢;generalize Wd.heap.size=n4 at hZ jG ⊢;refine mG 18 (fun K' hK=> ?_);refine cD 28 153 #[.slice pc N.cls.length kc, .int .u8 (b.toNat:Int)] ?_;refine (yK _ _ N.cls b (HC.out.below hS) (by omega)).mono ?_;rintro e Wb ⟨rfl,hBb⟩;replace hS:=hS.trans (hBb.mono hS.size);replace hZ:=hZ.below hBb hZ.lt;refine ⟨_,rfl,hK.out _ _ hS fun _=> ?_⟩;clear hK hBb;simp only [sA,sB,sC];rw [hi];refine tk 19 29 (.pointer (some ⟨ub,uo+i * 3,none⟩)) hS ?_ rfl yg;refine tk 20 30 (.agg (jo c)) hS ?_ rfl (aH (f:=oV) (l:=dH c) iq (.tmp 29) rfl ub (uo+i * 3) rfl (fun W' h=>(HS.out W' h).2.2.2.2) rfl rfl);refine aW (by kernel_rfl) ?_;simp only [List.drop]
   go_wp2_with (first
    | ((with_reducible refine zS (l':=dH c) hZ iq ?_);(intro We hse yX Im)))
   go_meet;exact ⟨n4,rfl,hse,hS.grown yX hS.size (fun k e=>by cases e;exact jG),jG⟩
 case rest=>
  clear c1;obtain ⟨n4,rfl,hce,hX,jG⟩:=hcut;have hx:=HX.out.below hX lx;have hO:=HO.out.below' hX;have hBw:=HB.out.trans (hX.mono HB.out.size);clear hX;have c0:wc.cell? ⟨n4,0,none⟩=some (.int .i64 c.tgt):=by rw [hce.cell?];rfl
  have e0:wc.cell? ⟨xb,0,none⟩=some (.int .i64 k):=by rw [hx.cell?];rfl
  have f0:=hx.frozen 0;have KJ:xb<n4:=bY lx jG;have hx2:Row oV (wc.setCell ⟨xb,0,none⟩ (.int .i64 c.tgt)) xb 222 (qV c.tgt false (aV pc N.cls.length kc) (aV (some ⟨rb,ro,none⟩) N.rows.length kr) (aV pe N.ends.length ke) (aV po l.length ko)):=hx.set 0 (oi c.tgt);have nU:Row oV (wc.setCell ⟨xb,0,none⟩ (.int .i64 c.tgt)) n4 98 (dH c):=hce.aB (by omega) _ _;have hO2:Mem.Own bg (wc.setCell ⟨xb,0,none⟩ (.int .i64 c.tgt)) (xb+1) 5 (.slice po l.length ko) l:=hO.cK (eP (aL (aI _ _) (some xb)) 0 _) (fun g hg e=>by injection e with e;have:=(hO.lt g hg).1;omega);have hB2:Below w0.heap.size w0 (wc.setCell ⟨xb,0,none⟩ (.int .i64 c.tgt)):=aQ hBw 0 hxb _;go_upto_region 3 with (fail);generalize (wc.setCell ⟨xb,0,none⟩ (.int .i64 c.tgt))=W2 at hx2 nU hO2 hB2 ⊢;clear c0 e0 f0 hx hce hO hBw;have ca:W2.cell? ⟨n4,1,none⟩=some (.int .i64 c.act):=by rw [nU.cell?];rfl
  have FW:=nU.lt;have hlo:∀g,(Value.slice po l.length ko).ownBlock=some g→g<n4:=fun g hg=>bY (HO.out.lt g hg).2 jG;by_cases a0:c.act=0
  ·have hnx:c.next=c.tgt:=by unfold Ce.next;rw [av (by omega)]
   have hrf:c.refuses=false:=cB (by omega);have hout:c.out b=[b]:=by unfold Ce.out;rw [aF a0]
   have eb:W2.cell? ⟨n4,2,none⟩=some (.int .u8 (c.b.toNat:Int)):=by rw [nU.cell?];rfl
   have fb:=nU.frozen 2;have ng:Row oV (W2.setCell ⟨n4,2,none⟩ (.int .u8 (b.toNat:Int))) n4 98 [oi c.tgt,oi c.act,⟨.int .u8 (b.toNat:Int),rfl⟩]:=nU.set 2 ⟨.int .u8 (b.toNat:Int),rfl⟩;have hx3:=hx2.aB (b':=n4) (by omega) 2 (.int .u8 (b.toNat:Int));have hO3:Mem.Own bg (W2.setCell ⟨n4,2,none⟩ (.int .u8 (b.toNat:Int))) (xb+1) 5 (.slice po l.length ko) l:=hO2.cK (eP (aL (aI _ _) (some n4)) 2 _) (fun g hg e=>by injection e with e;have:=hlo g hg;omega);have hB3:=aQ hB2 (b:=n4) 2 (by omega) (.int .u8 (b.toNat:Int));go_upto_region 8 with (fail);generalize (W2.setCell ⟨n4,2,none⟩ (.int .u8 (b.toNat:Int)))=W3 at ng hx3 hO3 hB3 ⊢;clear eb fb hx2 hO2 hB2 ca nU FW;have eb:W3.cell? ⟨n4,2,none⟩=some (.int .u8 (b.toNat:Int)):=by rw [ng.cell?];rfl
   have hln:=ng.lt;have e5:W3.cell? ⟨xb,5,none⟩=some (.slice po l.length ko):=by rw [hx3.cell?];rfl
   have HK:=af (And.intro hx3 (And.intro hO3 hB3));refine aT (S:=fun X=>X.cell? ⟨xb,5,none⟩=some (.slice po l.length ko)∧X.cell? ⟨n4,2,none⟩=some (.int .u8 (b.toNat:Int))) 9 rfl (by kernel_rfl) ⟨e5,eb⟩ fun hS=> ?_;refine tk 0 47 (.pointer (some ⟨xb,0,none⟩)) hS ?_;refine tk 1 48 (.pointer (some ⟨xb,0,none⟩)) hS ?_;refine tk 2 49 (.pointer (some ⟨xb,0,none⟩)) hS ?_;refine tk 3 50 (.pointer (some ⟨xb,5,none⟩)) hS ?_;refine tk 4 51 (.slice po l.length ko) hS ?_ rfl (qi fun W' h=>by obtain ⟨q0,q1⟩:=h;go_simp);refine tk 5 52 (.pointer (some ⟨n4,2,none⟩)) hS ?_;refine tk 6 53 (.int .u8 (b.toNat:Int)) hS ?_ rfl (qi fun W' h=>by obtain ⟨q0,q1⟩:=h;go_simp);refine mG 7 (fun K' hK=> ?_);have lW:xb+1≤W3.drew.heap.size:=HK.out.1.lt
   have DZ:(W3.drew.alloc (.cells #[.int .u8 (b.toNat:Int)] 5)).cell? ⟨xb,5,none⟩=some (.slice po l.length ko)∧(W3.drew.alloc (.cells #[.int .u8 (b.toNat:Int)] 5)).cell? ⟨n4,2,none⟩=some (.int .u8 (b.toNat:Int)):=
    ⟨(((aI W3.drew.heap.size W3.drew).alloc (aj _) _).cell (p:=⟨xb,5,none⟩) lW).trans hS.1,(((aI W3.drew.heap.size W3.drew).alloc (aj _) _).cell (p:=⟨n4,2,none⟩) hln).trans hS.2⟩
   refine qW (d:=54) (v:= .slice (some ⟨W3.drew.heap.size,0,none⟩) 1 1) (w':=W3.drew.alloc (.cells #[.int .u8 (b.toNat:Int)] 5)) rfl rfl (by first | rfl | kernel_rfl) ?_;refine hK.out _ _ DZ fun _=> ?_;clear hK;simp only [sA,sB,sC];refine mG 8 (fun K' hK=> ?_);have GI:Mem.Own bg W3.drew (xb+1) 5 (.slice po l.length ko) l:=HK.out.2.1;refine fI (w:=W3.drew) (l:=l) (v:= .slice po l.length ko) qE (.tmp 51) (.tmp 54) 31 rfl rfl rfl gD rfl GI b (.int .u8 (b.toNat:Int)) rfl 5 rfl (by omega) (by omega) lW (l++[b]) rfl ?_;intro p3 k3 w3 hO3 hG3 _;have hlen:(l++[b]).length=l.length+1:=by simp
   rw [hlen] at hO3;have hG4:W3.grownBy w3 (Value.slice po l.length ko).ownBlock:=(qw (aL (aI _ _) _)).andThen ((aL ((aI W3.drew.heap.size W3.drew).alloc (aj _) _) (Value.slice po l.length ko).ownBlock).andThen hG3 (fun j e=> .inr e)) (fun j e=> .inr e);have hne:∀g,(Value.slice po l.length ko).ownBlock=some g→xb<g∧g<n4:=fun g hg=>⟨(HK.out.2.1.lt g hg).1,hlo g hg⟩
   have zC:w3.cell? ⟨xb,5,none⟩=some (.slice po l.length ko)∧w3.cell? ⟨n4,2,none⟩=some (.int .u8 (b.toNat:Int)):=
    ⟨(uK (a:=⟨xb,5,none⟩) (hG4.block xb (Nat.lt_of_succ_le lW) (fun e=>by have:=(hne _ e.symm).1;omega))).trans hS.1,(uK (a:=⟨n4,2,none⟩) (hG4.block n4 hln (fun e=>by have:=(hne _ e.symm).2;omega))).trans hS.2⟩
   refine hK.out _ _ zC fun _=> ?_;clear hK hS DZ;simp only [Act.put,yO,yG,xZ];refine aW (by kernel_rfl) ?_;simp only [List.drop];have hx3:=HK.out.1.grown hG4 (fun e=>by have:=(hne _ e.symm).1;omega);have f5:=hx3.frozen 5;have g5:=zC.1;have hB3:Below w0.heap.size w0 w3:=HK.out.2.2.grown hG4 HK.out.2.2.size (fun g e=>by have:=(hne _ e).1;omega);have hx4:Row oV (w3.setCell ⟨xb,5,none⟩ (.slice p3 (l.length+1) k3)) xb 222 (qV c.tgt false (aV pc N.cls.length kc) (aV (some ⟨rb,ro,none⟩) N.rows.length kr) (aV pe N.ends.length ke) (aV p3 (l.length+1) k3)):=hx3.set 5 (aV p3 (l.length+1) k3);have hO4:Mem.Own bg (w3.setCell ⟨xb,5,none⟩ (.slice p3 (l.length+1) k3)) (xb+1) 5 (.slice p3 (l.length+1) k3) (l++[b]):=hO3.cK (eP (aL (aI _ _) (some xb)) 5 _) (fun g hg e=>by injection e with e;have:=(hO3.lt g hg).1;omega);have hB4:Below w0.heap.size w0 (w3.setCell ⟨xb,5,none⟩ (.slice p3 (l.length+1) k3)):=aQ hB3 5 hxb _;have HF:=af (And.intro hx4 (And.intro hO4 hB4));clear hx4 hO4 hB4 hx3 hO3 hG3 hG4 hB3 e5 zC;go_wp2;go_end0;exact ⟨rfl,HF.out.2.2,p3,k3,l++[b],af (by rw [hout]),by rw [hlen,hnx,hrf];exact HF.out.1,by rw [hlen];exact HF.out.2.1⟩
  by_cases a2:c.act=2
  ·have hnx:c.next=c.tgt:=by unfold Ce.next;rw [av (by omega)]
   have hrf:c.refuses=false:=cB (by omega);have hout:c.out b=[c.b]:=by unfold Ce.out;rw [av a0,aF a2]
   have eb:W2.cell? ⟨n4,2,none⟩=some (.int .u8 (c.b.toNat:Int)):=by rw [nU.cell?];rfl
   go_upto_region 8 with (fail);clear ca nU;have hln:=FW;have e5:W2.cell? ⟨xb,5,none⟩=some (.slice po l.length ko):=by rw [hx2.cell?];rfl
   have HK:=af (And.intro hx2 (And.intro hO2 hB2));refine aT (S:=fun X=>X.cell? ⟨xb,5,none⟩=some (.slice po l.length ko)∧X.cell? ⟨n4,2,none⟩=some (.int .u8 (c.b.toNat:Int))) 9 rfl (by kernel_rfl) ⟨e5,eb⟩ fun hS=> ?_;refine tk 0 47 (.pointer (some ⟨xb,0,none⟩)) hS ?_;refine tk 1 48 (.pointer (some ⟨xb,0,none⟩)) hS ?_;refine tk 2 49 (.pointer (some ⟨xb,0,none⟩)) hS ?_;refine tk 3 50 (.pointer (some ⟨xb,5,none⟩)) hS ?_;refine tk 4 51 (.slice po l.length ko) hS ?_ rfl (qi fun W' h=>by obtain ⟨q0,q1⟩:=h;go_simp);refine tk 5 52 (.pointer (some ⟨n4,2,none⟩)) hS ?_;refine tk 6 53 (.int .u8 (c.b.toNat:Int)) hS ?_ rfl (qi fun W' h=>by obtain ⟨q0,q1⟩:=h;go_simp);refine mG 7 (fun K' hK=> ?_);have lW:xb+1≤W2.drew.heap.size:=HK.out.1.lt
   have DZ:(W2.drew.alloc (.cells #[.int .u8 (c.b.toNat:Int)] 5)).cell? ⟨xb,5,none⟩=some (.slice po l.length ko)∧(W2.drew.alloc (.cells #[.int .u8 (c.b.toNat:Int)] 5)).cell? ⟨n4,2,none⟩=some (.int .u8 (c.b.toNat:Int)):=
    ⟨(((aI W2.drew.heap.size W2.drew).alloc (aj _) _).cell (p:=⟨xb,5,none⟩) lW).trans hS.1,(((aI W2.drew.heap.size W2.drew).alloc (aj _) _).cell (p:=⟨n4,2,none⟩) hln).trans hS.2⟩
   refine qW (d:=54) (v:= .slice (some ⟨W2.drew.heap.size,0,none⟩) 1 1) (w':=W2.drew.alloc (.cells #[.int .u8 (c.b.toNat:Int)] 5)) rfl rfl (by first | rfl | kernel_rfl) ?_;refine hK.out _ _ DZ fun _=> ?_;clear hK;simp only [sA,sB,sC];refine mG 8 (fun K' hK=> ?_);have GI:Mem.Own bg W2.drew (xb+1) 5 (.slice po l.length ko) l:=HK.out.2.1;refine fI (w:=W2.drew) (l:=l) (v:= .slice po l.length ko) qE (.tmp 51) (.tmp 54) 31 rfl rfl rfl gD rfl GI c.b (.int .u8 (c.b.toNat:Int)) rfl 5 rfl (by omega) (by omega) lW (l++[c.b]) rfl ?_;intro p3 k3 w3 hO3 hG3 _;have hlen:(l++[c.b]).length=l.length+1:=by simp
   rw [hlen] at hO3;have hG4:W2.grownBy w3 (Value.slice po l.length ko).ownBlock:=(qw (aL (aI _ _) _)).andThen ((aL ((aI W2.drew.heap.size W2.drew).alloc (aj _) _) (Value.slice po l.length ko).ownBlock).andThen hG3 (fun j e=> .inr e)) (fun j e=> .inr e);have hne:∀g,(Value.slice po l.length ko).ownBlock=some g→xb<g∧g<n4:=fun g hg=>⟨(HK.out.2.1.lt g hg).1,hlo g hg⟩
   have zC:w3.cell? ⟨xb,5,none⟩=some (.slice po l.length ko)∧w3.cell? ⟨n4,2,none⟩=some (.int .u8 (c.b.toNat:Int)):=
    ⟨(uK (a:=⟨xb,5,none⟩) (hG4.block xb (Nat.lt_of_succ_le lW) (fun e=>by have:=(hne _ e.symm).1;omega))).trans hS.1,(uK (a:=⟨n4,2,none⟩) (hG4.block n4 hln (fun e=>by have:=(hne _ e.symm).2;omega))).trans hS.2⟩
   refine hK.out _ _ zC fun _=> ?_;clear hK hS DZ;simp only [Act.put,yO,yG,xZ];refine aW (by kernel_rfl) ?_;simp only [List.drop];have hx3:=HK.out.1.grown hG4 (fun e=>by have:=(hne _ e.symm).1;omega);have f5:=hx3.frozen 5;have g5:=zC.1;have hB3:Below w0.heap.size w0 w3:=HK.out.2.2.grown hG4 HK.out.2.2.size (fun g e=>by have:=(hne _ e).1;omega);have hx4:Row oV (w3.setCell ⟨xb,5,none⟩ (.slice p3 (l.length+1) k3)) xb 222 (qV c.tgt false (aV pc N.cls.length kc) (aV (some ⟨rb,ro,none⟩) N.rows.length kr) (aV pe N.ends.length ke) (aV p3 (l.length+1) k3)):=hx3.set 5 (aV p3 (l.length+1) k3);have hO4:Mem.Own bg (w3.setCell ⟨xb,5,none⟩ (.slice p3 (l.length+1) k3)) (xb+1) 5 (.slice p3 (l.length+1) k3) (l++[c.b]):=hO3.cK (eP (aL (aI _ _) (some xb)) 5 _) (fun g hg e=>by injection e with e;have:=(hO3.lt g hg).1;omega);have hB4:Below w0.heap.size w0 (w3.setCell ⟨xb,5,none⟩ (.slice p3 (l.length+1) k3)):=aQ hB3 5 hxb _;have HF:=af (And.intro hx4 (And.intro hO4 hB4));clear hx4 hO4 hB4 hx3 hO3 hG3 hG4 hB3 e5 zC;go_wp2;go_end0;exact ⟨rfl,HF.out.2.2,p3,k3,l++[c.b],af (by rw [hout]),by rw [hlen,hnx,hrf];exact HF.out.1,by rw [hlen];exact HF.out.2.1⟩
  by_cases a3:c.act=3
  ·have hnx:c.next=0:=by unfold Ce.next;rw [aF a3]
   have hrf:c.refuses=true:=dI a3;have hout:c.out b=[]:=by unfold Ce.out;rw [av a0,av a2]
   have e0:W2.cell? ⟨xb,0,none⟩=some (.int .i64 c.tgt):=by rw [hx2.cell?];rfl
   have e1:W2.cell? ⟨xb,1,none⟩=some (.bool false):=by rw [hx2.cell?];rfl
   have f0:=hx2.frozen 0;have f1:=hx2.frozen 1;have hx4:Row oV ((W2.setCell ⟨xb,0,none⟩ (.int .i64 0)).setCell ⟨xb,1,none⟩ (.bool true)) xb 222 (qV 0 true (aV pc N.cls.length kc) (aV (some ⟨rb,ro,none⟩) N.rows.length kr) (aV pe N.ends.length ke) (aV po l.length ko)):=(hx2.set 0 (oi 0)).set 1 (ob true);have hO4:Mem.Own bg ((W2.setCell ⟨xb,0,none⟩ (.int .i64 0)).setCell ⟨xb,1,none⟩ (.bool true)) (xb+1) 5 (.slice po l.length ko) l:=hO2.cK (eP (eP (aL (aI _ _) (some xb)) 0 _) 1 _) (fun g hg e=>by injection e with e;have:=(hO2.lt g hg).1;omega);have hB4:Below w0.heap.size w0 ((W2.setCell ⟨xb,0,none⟩ (.int .i64 0)).setCell ⟨xb,1,none⟩ (.bool true)):=aQ (aQ hB2 0 hxb _) 1 hxb _;have HF:=af (And.intro hx4 (And.intro hO4 hB4));clear hx4 hO4 hB4 hx2 hO2 hB2;go_wp2;go_end0;exact ⟨rfl,HF.out.2.2,po,ko,l,af (by rw [hout,AR]),by rw [hnx,hrf];exact HF.out.1,HF.out.2.1⟩
  ·have hnx:c.next=c.tgt:=by unfold Ce.next;rw [av a3]
   have hrf:c.refuses=false:=cB a3;have hout:c.out b=[]:=by unfold Ce.out;rw [av a0,av a2]
   go_wp2;go_end0;exact ⟨rfl,hB2,po,ko,l,af (by rw [hout,AR]),by rw [hnx,hrf];exact hx2,hO2⟩
theorem Ea (w:World) (xb:Nat) (a:Int) (vc vr ve vo:OC) (b:Value) (hx:Row oV w xb 222 (qV a true vc vr ve vo)):
  Calls Tryz.prog 96 #[.pointer (some ⟨xb,0,none⟩),b] w fun e w'=>e= .returned (.tuple #[])∧w'=w:=by
 have c1:w.cell? ⟨xb,1,none⟩=some (.bool true):=by rw [hx.cell?];rfl
 clear hx;go_enter Tryz.func96,Tryz.ntmps96;go_wp2;exact o6 (v:= .tuple #[]) (by simp [results,Tryz.results96,go_sem]) rfl ⟨rfl,rfl⟩
theorem Fp {α:Type} {f:α→Value} {P:Program} {ops:Array Oper} {o:Oper} {a:Act} {w:World} {K:Act→World→Prop} {Q:Exit→Act→World→Prop} {Z:Prop} {ty t:TypeId} {l l':List α} (T:gB P ty l'.length) (x y:Operand) (hw:Region.wanted o (yielded ops a.tmps)=true) (ho:o.op= .store ty x y) (hd:o.dst=none) (b:Nat) (hx:a.eval x= .pointer (some ⟨b,0,none⟩))
  {C:Array Value} (hC:C=(l'.map f).toArray) (hy:a.eval y= .agg C) (h:Row f w b t l) (hl:l'.length=l.length) (h1:∀x,(f x).oneCell'=true)
  (hk:∀w',Row f w' b t l'→w.grownBy w' (some b)→K a w'):if Region.wanted o (yielded ops a.tmps)=true then Oper.wp P o a w K Q else Z:=by
 subst hC;obtain ⟨w',hr,h2,h3,h4⟩:=kS T h hl h1;rw [aF hw];unfold Oper.wp execOp;simp only [ho,hx,hy,Instr.storeAt,Instr.sureAddr,bK,dG,bR,hr];show K (a.put o.dst undef) w';rw [hd];exact hk w' h2 h3
structure gQ where
 pos:Int
 ref:Bool
 out:List UInt8
def NZ.step (N:NZ) (s:gQ) (b:UInt8):gQ:=if s.ref then s else ⟨(N.cell s.pos.toNat b).next,(N.cell s.pos.toNat b).refuses,s.out++(N.cell s.pos.toNat b).out b⟩
def NZ.run (N:NZ) (s:gQ) (bs:List UInt8):gQ:=bs.foldl N.step s
theorem vC (N:NZ) (s:gQ) (bs:List UInt8) (k:Nat) (h:k<bs.length):N.run s (bs.take (k+1))=N.step (N.run s (bs.take k)) bs[k]:=by
 unfold NZ.run;rw [G5 h,EJ];rfl
theorem om (c:Ce) (b:UInt8):(c.out b).length≤1:=by unfold Ce.out;split<;>(try split)<;>simp
theorem BP (N:NZ) (s:gQ) (b:UInt8):(N.step s b).out.length≤s.out.length+1:=by
 unfold NZ.step;split
 ·omega
 ·have:=om (N.cell s.pos.toNat b) b;simp;omega
theorem Ef (N:NZ) (bs:List UInt8):∀s,(N.run s bs).out.length≤s.out.length+bs.length:=by
 induction bs with
 | nil=>intro s;exact aj _
 | cons b bs ih=>
  intro s;have h1:=ih (N.step s b);have h2:=BP N s b;show (N.run (N.step s b) bs).out.length≤_;rw [jM];omega
theorem mH {N:NZ} (hv:N.valid=true) (k:Nat) (hk:k<N.rows.length):N.rows[k].length=N.cls.length:=(((aJ N).1 hv).2.2.2.2 _ (uV hk)).1
theorem BS {N:NZ} (hv:N.valid=true) (dZ:N.uG) (k:Nat) (hk:k<N.rows.length) (b:UInt8):N.cell k b∈N.rows[k]:=by
 obtain ⟨i,hil,hi⟩:=dZ b;have hl:=mH hv k hk;unfold NZ.cell;rw [hi,dR hk];show (N.rows[k][(i:Int).toNat]?).getD _∈_;rw [show (i:Int).toNat=i by simp,dR (by omega)];exact uV _
theorem Ct {N:NZ} (hv:N.valid=true) (dZ:N.uG) (k:Nat) (hk:k<N.rows.length) (b:UInt8):0≤(N.cell k b).next∧(N.cell k b).next<(N.rows.length:Int):=by
 have hb:=(((aJ N).1 hv).2.2.2.2 _ (uV hk)).2;rw [zT] at hb;have h:=hb _ (BS hv dZ k hk b);have h2:¬((N.cell k b).tgt<0∨(N.rows.length:Int)≤(N.cell k b).tgt∨(N.cell k b).act<0∨3<(N.cell k b).act∨(N.cell k b).act≠2∧((N.cell k b).b.toNat:Int)≠0):=fun hh=>h (dI hh);unfold Ce.next;split<;>omega
theorem step_pos {N:NZ} (hv:N.valid=true) (dZ:N.uG) (s:gQ) (h:0≤s.pos∧s.pos<(N.rows.length:Int)) (b:UInt8):0≤(N.step s b).pos∧(N.step s b).pos<(N.rows.length:Int):=by
 unfold NZ.step;split
 ·exact h
 ·exact Ct hv dZ _ (by omega) b
theorem fJ:gB Tryz.prog 162 2:=⟨fun _=>by kernel_rfl,fun _=>by kernel_rfl⟩
theorem FM (w:World) (N:NZ) (pc pr pe pu:Option Addr) (kc kr ke ku:Nat) (at_:Int) (r:Bool) (bs:List UInt8) (hv:dB w (.agg #[.slice pc N.cls.length kc, .slice pr N.rows.length kr, .slice pe N.ends.length ke]) N) (hu:Rd bg w (.slice pu bs.length ku) bs) (hbs:bs.length≤140737488351232) (dZ:N.valid=true→N.uG):
  Calls Tryz.prog 62 #[.agg #[.slice pc N.cls.length kc, .slice pr N.rows.length kr, .slice pe N.ends.length ke], .agg #[.int .i64 at_, .bool r], .slice pu bs.length ku] w fun e w'=>Below w.heap.size w w'∧
   ((N.bE at_=false∧e= .returned (.tuple #[.agg #[.int .i64 0, .bool false], .slice none 0 0]))∨
   (N.bE at_=true∧∃s,Hid (s=N.run ⟨dw r at_,r,[]⟩ bs)∧∃po ko,e= .returned (.tuple #[.agg #[.int .i64 s.pos, .bool s.ref], .slice po s.out.length ko])∧Mem.Own bg w' w.heap.size 5 (.slice po s.out.length ko) s.out)):=by
 have HV:=af hv;have HU:=af hu;clear hv hu;go_enter Tryz.func62,Tryz.ntmps62;go_upto_region 1 with (fail)
 obtain ⟨W,hW,hB,hs,g0,g1,g2⟩:∃W,(((w.alloc (.cells #[.slice pc N.cls.length kc, .slice pr N.rows.length kr, .slice pe N.ends.length ke] 61)).alloc (.cells #[.int .i64 at_, .bool r] 162)).alloc (.cells #[.int .i64 0, .bool false] 162))=W∧Below w.heap.size w W∧w.heap.size+3≤W.heap.size∧W.heap[w.heap.size]?=some (.cells #[.slice pc N.cls.length kc, .slice pr N.rows.length kr, .slice pe N.ends.length ke] 61 (0,0))∧W.heap[w.heap.size+1]?=some (.cells #[.int .i64 at_, .bool r] 162 (0,0))∧W.heap[w.heap.size+1+1]?=some (.cells #[.int .i64 0, .bool false] 162 (0,0)):=by
  refine ⟨_,rfl,ai (ai (ai (aI _ _) (aj _) _) (aj _) _) (aj _) _,by simp,?_,?_,?_⟩
  all_goals repeat (first | (refine bG _ _ _ ?_;(simp;done)) | (refine (oI _ _ _ ?_).trans ?_;·(simp<;>omega)))
 rw [hW];clear hW;have rz:Row oV W (w.heap.size+1+1) 162 [oi 0,ob false]:=g2;have c0:W.cell? ⟨w.heap.size,0,none⟩=some (.slice pc N.cls.length kc):=by unfold World.cell?;rw [g0];rfl
 have c1:W.cell? ⟨w.heap.size,1,none⟩=some (.slice pr N.rows.length kr):=by unfold World.cell?;rw [g0];rfl
 have c2:W.cell? ⟨w.heap.size,2,none⟩=some (.slice pe N.ends.length ke):=by unfold World.cell?;rw [g0];rfl
 have s0:W.cell? ⟨w.heap.size+1,0,none⟩=some (.int .i64 at_):=by unfold World.cell?;rw [g1];rfl
 have s1:W.cell? ⟨w.heap.size+1,1,none⟩=some (.bool r):=by unfold World.cell?;rw [g1];rfl
 clear g0 g1 g2;go_wp2_with fail;refine (DW W N pc pr pe kc kr ke at_ r (HV.out.below hB)).mono ?_;rintro e W1 ⟨hB1,⟨hno,rfl⟩ | ⟨hok,xb,rfl,hxb,hx⟩⟩
 ·have Bw:=rz.below hB1 rz.lt;have hBw:=hB.trans (hB1.mono hB.size);have jE:=af hno;clear hno c0 c1 c2 s0 s1 rz hB1 hB
  go_wp2_with (first
   | ((with_reducible refine zS (l':=[oi 0,ob false]) Bw fJ ?_);(intro W2 hs2 hG2 hz2)))
  refine o6 (v:= .tuple #[.agg #[.int .i64 0, .bool false], .slice none 0 0]) (dz (f:=oV) (l:=[oi 0,ob false]) (t:=7) rfl _ fJ (w.heap.size+1+1) 0 rfl hs2.at) rfl ?_;exact ⟨hBw.grown hG2 hBw.size (fun k e=>by cases e;omega), .inl ⟨jE.out,rfl⟩⟩
 ·have hval:N.valid=true:=by unfold NZ.bE at hok;rw [aX] at hok;exact hok.1
  have hat:0≤at_∧at_<(N.rows.length:Int):=by unfold NZ.bE at hok;rw [aX] at hok;exact of_decide_eq_true hok.2
  have iE:=af (And.intro hok (And.intro hval hat));have hl1:=hx.lt;clear hok hval hat c0 c1 c2 s0 s1;have HZ:=af rz;clear rz;have HW:=af (HV.out.below hB);have HB:=af (And.intro hB hs);have h00:0≤dw r at_∧dw r at_<(N.rows.length:Int):=by have:=iE.out.2.2;unfold dw;split<;>omega
  have Hg:Hid (Rd bg W (.slice pu bs.length ku) bs):=af (HU.out.below hB);go_wp2_with fail
  go_loopw [23] (fun i wr=>∃(k:Nat) (s:gQ) (po:Option Addr) (ko:Nat),k≤bs.length∧i= .int .i64 k∧Hid (s=N.run ⟨dw r at_,r,[]⟩ (bs.take k))∧(0≤s.pos∧s.pos<(N.rows.length:Int))∧Row oV wr xb 222 (qV s.pos s.ref (aV pc N.cls.length kc) (aV pr N.rows.length kr) (aV pe N.ends.length ke) (aV po s.out.length ko))∧Mem.Own bg wr (xb+1) 5 (.slice po s.out.length ko) s.out∧Below W.heap.size W wr) (fun i _=>bs.length - (intOf i).toNat)
  case atStart=>exact ⟨0,⟨dw r at_,r,[]⟩,none,0,by omega,rfl,af rfl,h00,hx,Own.nil _ _ _,hB1⟩
  case round=>
   clear hx hB1 hl1 hB hs h00;obtain ⟨k,s,po,ko,hk,rfl,hs,hpos,hx,hO,hX⟩:=hrel;have HP:=af hpos;have zi:=af (And.intro hx hO);have lx:=hx.lt;clear hpos hx hO;by_cases hlt:k<bs.length
   ·obtain ⟨bu,ou,rfl,hA,Kt⟩:∃b o,pu=some ⟨b,o,none⟩∧At bg W b o bs∧b<W.heap.size:=by
     rcases Hg.out with ⟨_,_,h0⟩ | ⟨b,o,cap,h1,_,ha,hl⟩
     ·rw [h0] at hlt;simp at hlt
     ·cases h1;exact ⟨b,o,rfl,ha,hl⟩
    have cb:wr.cell? ⟨bu,ou+k,none⟩=some (.int .u8 (bs[k].toNat:Int)):=((hX.cell (p:=⟨bu,ou+k,none⟩) Kt).trans (hA k hlt)).trans (by rw [dR hlt];rfl);have hq:(k:Int)<(bs.length:Int):=by omega
    clear hA;go_wp2_with fail;have hrun:=vC N ⟨dw r at_,r,[]⟩ bs k hlt;rw [← hs.out] at hrun;have Gd:=af hrun;clear hrun cb;cases hr:s.ref with
    | true=>
     have hx:=zi.out.1;rw [hr] at hx;refine (Ea wr xb s.pos _ _ _ _ _ hx).mono ?_;rintro e w2 ⟨rfl,rfl⟩;have hst:N.step s bs[k]=s:=by unfold NZ.step;rw [aF hr]
     go_wp2_with fail
     go_roundw
     case rel=>exact ⟨k+1,s,po,ko,by omega,by go_num,af (by rw [Gd.out,hst]),HP.out,zi.out.1,zi.out.2,hX⟩
     case measure=>simp [intOf];omega
    | false=>
     obtain ⟨n,hn⟩:∃n:Nat,s.pos=(n:Int):=⟨s.pos.toNat,by have:=HP.out;omega⟩
     have hnl:n<N.rows.length:=by have:=HP.out;omega
     have hx:=zi.out.1;rw [hr,hn] at hx;have hcl:N.cls.length≤256:=((aJ N).1 iE.out.2.1).1.1
     have hol:s.out.length≤140737488351232:=by
      rw [hs.out];have:=Ef N (bs.take k) ⟨dw r at_,r,[]⟩;rw [List.length_take] at this;have h0:(⟨dw r at_,r,[]⟩:gQ).out.length=0:=rfl;omega
     refine (EN W wr N xb n pc pr pe po kc kr ke ko s.out bs[k] HW.out hX hxb hx zi.out.2 hnl (dZ iE.out.2.1) (mH iE.out.2.1 n hnl) hcl hol).mono ?_;rintro e w2 ⟨rfl,hX2,JX,JV,l2,hl2,hx2,hO2⟩
     have hst:N.step s bs[k]=⟨(N.cell n bs[k]).next,(N.cell n bs[k]).refuses,l2⟩:=by
      unfold NZ.step;rw [av (by rw [hr];decide),hn,hl2.out];rfl
     have hp2:=step_pos iE.out.2.1 (dZ iE.out.2.1) s HP.out bs[k];rw [hst] at hp2;have HF:=af (And.intro hx2 (And.intro hO2 (And.intro hX2 hp2)));clear hx2 hO2 hX2 hp2 hx;go_wp2_with fail
     go_roundw
     case rel=>exact ⟨k+1,⟨(N.cell n bs[k]).next,(N.cell n bs[k]).refuses,l2⟩,JX,JV,by omega,by go_num,af (by rw [Gd.out,hst]),HF.out.2.2.2,HF.out.1,HF.out.2.1,HF.out.2.2.1⟩
     case measure=>simp [intOf];omega
   ·have hke:k=bs.length:=by omega
    have hs':Hid (s=N.run ⟨dw r at_,r,[]⟩ bs):=af (by rw [hs.out,De (by omega)]);have hq:¬(k:Int)<(bs.length:Int):=by omega
    go_upto_region 9 with (fail);have Bw:Row oV wr (w.heap.size+1+1) 162 [oi 0,ob false]:=HZ.out.below hX HZ.out.lt
    have hq0:At oV wr xb 0 [oi s.pos,ob s.ref]∧wr.cell? ⟨xb,5,none⟩=some (.slice po s.out.length ko):=by
     have h:=zi.out.1;refine ⟨fun i hi=> ?_,by rw [h.cell?];rfl⟩;rcases (by simp at hi;omega:i=0∨i=1) with rfl | rfl<;>(rw [h.cell?];rfl)
    refine wp_region_held_drew (S:=fun X=>At oV X xb 0 [oi s.pos,ob s.ref]∧X.cell? ⟨xb,5,none⟩=some (.slice po s.out.length ko)) rfl hq0 fun hS=> ?_;refine bD 0 31 (.pointer (some ⟨xb,0,none⟩)) hS ?_;refine bD 1 32 (.pointer (some ⟨xb,0,none⟩)) hS ?_;refine bD 2 33 (.pointer (some ⟨xb,0,none⟩)) hS ?_;refine bD 3 34 (.agg #[.int .i64 s.pos, .bool s.ref]) hS ?_ rfl (aH (f:=oV) (l:=[oi s.pos,ob s.ref]) fJ (.tmp 33) rfl xb 0 rfl (fun W' h=>h.1) rfl rfl);refine bD 4 35 (.pointer (some ⟨xb,0,none⟩)) hS ?_;refine bD 5 36 (.pointer (some ⟨xb,0,none⟩)) hS ?_;refine bD 6 37 (.pointer (some ⟨xb,5,none⟩)) hS ?_;refine bD 7 38 (.slice po s.out.length ko) hS ?_ rfl (qi fun W' h=>by have q0:=h.2;go_simp);have hBw:Below w.heap.size w wr.drew:=(HB.out.1.trans (hX.mono HB.out.1.size)).drew;have GV:Mem.Own bg wr.drew (xb+1) 5 (.slice po s.out.length ko) s.out:=zi.out.2;have hne:∀g,(Value.slice po s.out.length ko).ownBlock=some g→some g≠some (w.heap.size+1+1):=fun g hg e=>by injection e with e;have h1:=(GV.lt g hg).1;have h2:=HB.out.2;omega
    have hwl:w.heap.size≤xb+1:=by have h2:=HB.out.2;omega
    have Ir:xb≠w.heap.size+1+1:=by have h2:=HB.out.2;omega
    have I6:=Bw.drew;have Hz:xb<wr.drew.heap.size:=lx;generalize wr.drew=Y at I6 hBw GV hS Hz ⊢;refine xO 8 (fun K' hK=> ?_);refine Fp (f:=oV) (l:=[oi 0,ob false]) (l':=[oi s.pos,ob s.ref]) (t:=162) (C:= #[.int .i64 s.pos, .bool s.ref]) fJ (.tmp 6) (.tmp 34) rfl rfl rfl (w.heap.size+1+1) rfl rfl rfl I6 rfl wE ?_;intro W2 hs2 hG2;replace hS:=And.intro (hS.1.grown hG2 Hz (by intro e;injection e with e;exact Ir e)) ((uK (a:=⟨xb,5,none⟩) (hG2.block xb Hz (by intro e;injection e with e;exact Ir e))).trans hS.2);refine hK.out _ _ hS fun _=> ?_;clear hK;refine bD 9 7 (.slice po s.out.length ko) hS ?_;refine wpAnyH_done (by kernel_rfl) ?_ _;go_wp2;refine o6 (v:= .tuple #[.agg #[.int .i64 s.pos, .bool s.ref], .slice po s.out.length ko]) (dz (f:=oV) (l:=[oi s.pos,ob s.ref]) (t:=7) rfl _ fJ (w.heap.size+1+1) 0 rfl hs2.at) rfl ?_;exact ⟨hBw.grown hG2 hBw.size (fun k e=>by cases e;omega), .inr ⟨iE.out.1,s,hs',po,ko,rfl,(GV.cK hG2 hne).mono hwl⟩⟩
def NZ.fin (N:NZ) (at_:Int) (r:Bool):Bool:=N.bE at_ && (!r && (N.ends[at_.toNat]?.getD false))
theorem xH (w:World) (N:NZ) (pc pr pe:Option Addr) (kc kr ke:Nat) (at_:Int) (r:Bool) (hv:dB w (.agg #[.slice pc N.cls.length kc, .slice pr N.rows.length kr, .slice pe N.ends.length ke]) N):
  Calls Tryz.prog 63 #[.agg #[.slice pc N.cls.length kc, .slice pr N.rows.length kr, .slice pe N.ends.length ke], .agg #[.int .i64 at_, .bool r]] w fun e w'=>e= .returned (.bool (N.fin at_ r))∧Below w.heap.size w w':=by
 have HV:=af hv
 have HE:Hid (Rd Value.bool w (.slice pe N.ends.length ke) N.ends):=af (by
  obtain ⟨vc,vr,ve,he,h1,h2,h3⟩:=hv
  obtain ⟨rfl,rfl,rfl⟩: .slice pc N.cls.length kc=vc∧ .slice pr N.rows.length kr=vr∧ .slice pe N.ends.length ke=ve:=by
   have:=congrArg (fun v=>match v with | Value.agg a=>a.toList | _=>[]) he
   simpa using this
  exact h3)
 clear hv;go_enter Tryz.func63,Tryz.ntmps63;go_upto_region 1 with (fail)
 obtain ⟨W,hW,hB,hs,g0,g1⟩:∃W,((w.alloc (.cells #[.slice pc N.cls.length kc, .slice pr N.rows.length kr, .slice pe N.ends.length ke] 61)).alloc (.cells #[.int .i64 at_, .bool r] 162))=W∧Below w.heap.size w W∧w.heap.size+2≤W.heap.size∧W.heap[w.heap.size]?=some (.cells #[.slice pc N.cls.length kc, .slice pr N.rows.length kr, .slice pe N.ends.length ke] 61 (0,0))∧W.heap[w.heap.size+1]?=some (.cells #[.int .i64 at_, .bool r] 162 (0,0)):=by
  refine ⟨_,rfl,ai (ai (aI _ _) (aj _) _) (aj _) _,by simp,?_,?_⟩
  all_goals repeat (first | (refine bG _ _ _ ?_;(simp;done)) | (refine (oI _ _ _ ?_).trans ?_;·(simp<;>omega)))
 rw [hW];clear hW;have c0:W.cell? ⟨w.heap.size,0,none⟩=some (.slice pc N.cls.length kc):=by unfold World.cell?;rw [g0];rfl
 have c1:W.cell? ⟨w.heap.size,1,none⟩=some (.slice pr N.rows.length kr):=by unfold World.cell?;rw [g0];rfl
 have c2:W.cell? ⟨w.heap.size,2,none⟩=some (.slice pe N.ends.length ke):=by unfold World.cell?;rw [g0];rfl
 have s0:W.cell? ⟨w.heap.size+1,0,none⟩=some (.int .i64 at_):=by unfold World.cell?;rw [g1];rfl
 have s1:W.cell? ⟨w.heap.size+1,1,none⟩=some (.bool r):=by unfold World.cell?;rw [g1];rfl
 clear g0 g1 hs;go_wp2_with fail;refine (DW W N pc pr pe kc kr ke at_ r (HV.out.below hB)).mono ?_;rintro e W1 ⟨hB1,⟨hno,rfl⟩ | ⟨hok,xb,rfl,hxb,hx⟩⟩
 ·have hf:N.fin at_ r=false:=by unfold NZ.fin;rw [hno];rfl
  have hBw:=hB.trans (hB1.mono hB.size);clear hno;go_wp2;go_ret;exact ⟨by first | rfl | (rw [hf];rfl),hBw⟩
 ·have hval:N.valid=true:=by unfold NZ.bE at hok;rw [aX] at hok;exact hok.1
  have hat:0≤at_∧at_<(N.rows.length:Int):=by unfold NZ.bE at hok;rw [aX] at hok;exact of_decide_eq_true hok.2
  have hel:N.ends.length=N.rows.length:=((aJ N).1 hval).1.2.2.2;obtain ⟨k,hk⟩:∃k:Nat,dw r at_=(k:Int):=⟨(dw r at_).toNat,by unfold dw;split<;>omega⟩
  have hkl:k<N.ends.length:=by unfold dw at hk;split at hk<;>omega
  have hf:N.fin at_ r=(!r && N.ends[k]):=by
   unfold NZ.fin;rw [hok,wF];cases r with
   | true=>rfl
   | false=>
    have:at_=(k:Int):=hk;rw [this];show (true && (N.ends[(k:Int).toNat]?).getD false)=_;rw [show (k:Int).toNat=k by simp,dR hkl];rfl
  have HF:=af hf;rw [hk] at hx;have hBw:=hB.trans (hB1.mono hB.size);have hE1:=(HE.out.below hB).below hB1;clear hok hf hval hat hk c0 c1 c2 s0 s1;go_wp2_with fail;refine (zy W1 xb k r _ _ _ pe ke N.ends hx hE1 hkl).mono ?_;rintro e W2 ⟨rfl,hB2⟩;have hBx:=hBw.trans (hB2.mono hBw.size);go_wp2;go_ret;exact ⟨by rw [HF.out];rfl,hBx⟩
def NZ.acc (N:NZ) (bs:List UInt8):Bool:=N.bE 0 && N.fin (N.run ⟨0,false,[]⟩ bs).pos (N.run ⟨0,false,[]⟩ bs).ref
theorem Il (w:World) (N:NZ) (pc pr pe pu:Option Addr) (kc kr ke ku:Nat) (bs:List UInt8) (hv:dB w (.agg #[.slice pc N.cls.length kc, .slice pr N.rows.length kr, .slice pe N.ends.length ke]) N) (hu:Rd bg w (.slice pu bs.length ku) bs) (hbs:bs.length≤140737488351232) (dZ:N.valid=true→N.uG):
  Calls Tryz.prog 36 #[.agg #[.slice pc N.cls.length kc, .slice pr N.rows.length kr, .slice pe N.ends.length ke], .slice pu bs.length ku] w fun e w'=>Below w.heap.size w w'∧
   ((N.acc bs=false∧e= .returned (.tuple #[.slice none 0 0, .bool false]))∨
   (N.acc bs=true∧∃l,Hid (l=(N.run ⟨0,false,[]⟩ bs).out)∧∃po ko,e= .returned (.tuple #[.slice po l.length ko, .bool true])∧Mem.Own bg w' w.heap.size 5 (.slice po l.length ko) l)):=by
 have HV:=af hv;have HU:=af hu;clear hv hu;go_enter Tryz.func36,Tryz.ntmps36;go_upto_region 1 with (fail)
 obtain ⟨W,hW,hB,hs,g0⟩:∃W,(w.alloc (.cells #[.slice pc N.cls.length kc, .slice pr N.rows.length kr, .slice pe N.ends.length ke] 61))=W∧Below w.heap.size w W∧w.heap.size+1≤W.heap.size∧W.heap[w.heap.size]?=some (.cells #[.slice pc N.cls.length kc, .slice pr N.rows.length kr, .slice pe N.ends.length ke] 61 (0,0)):=
  ⟨_,rfl,ai (aI _ _) (aj _) _,by simp,World.alloc_heap_new _ _⟩
 rw [hW];clear hW
 have HC:Hid (∀X,Below W.heap.size W X→X.cell? ⟨w.heap.size,0,none⟩=some (.slice pc N.cls.length kc)∧X.cell? ⟨w.heap.size,1,none⟩=some (.slice pr N.rows.length kr)∧X.cell? ⟨w.heap.size,2,none⟩=some (.slice pe N.ends.length ke)):=af fun X hX=>by
  have h:=(hX.block w.heap.size (by omega)).trans g0;refine ⟨?_,?_,?_⟩<;>(unfold World.cell?;rw [h];rfl)
 clear g0;obtain ⟨c0,c1,c2⟩:=HC.out W (aI _ _);go_wp2_with fail;refine (FM W N pc pr pe pu kc kr ke ku 0 false bs (HV.out.below hB) (HU.out.below hB) hbs dZ).mono ?_;rintro e W1 ⟨hB1,⟨hno,rfl⟩ | ⟨hok,s,D8,po,ko,rfl,hO⟩⟩
 ·have hacc:N.acc bs=false:=by unfold NZ.acc;rw [hno];rfl
  have HB:=af hB1;have hX1:=hB1.alloc hB1.size (.cells #[.int .i64 0, .bool false] 162);have jE:=af (And.intro hno hacc);clear c0 c1 c2 hno hacc;obtain ⟨c0,c1,c2⟩:=HC.out _ hX1;go_wp2_with fail;refine (xH _ N pc pr pe kc kr ke 0 false (HV.out.below (hB.trans (hX1.mono hB.size)))).mono ?_;rintro e W2 ⟨rfl,hB2⟩;have hf:N.fin 0 false=false:=by unfold NZ.fin;rw [jE.out.1];rfl
  rw [hf];have hBx:=(hB.trans (hX1.mono hB.size)).trans (hB2.mono (hB.trans (hX1.mono hB.size)).size);clear hf;go_wp2;go_ret2;exact ⟨hBx, .inl ⟨jE.out.2,rfl⟩⟩
 ·have rV:s=N.run ⟨0,false,[]⟩ bs:=D8.out;have hX1:=hB1.alloc hB1.size (.cells #[.int .i64 s.pos, .bool s.ref] 162);have hacc:N.acc bs=N.fin s.pos s.ref:=by unfold NZ.acc;rw [hok,← rV];rfl
  have HA:=af (And.intro hacc rV);have HO:=af (hO.alloc (.cells #[.int .i64 s.pos, .bool s.ref] 162));clear c0 c1 c2 hok hacc D8 rV hO;obtain ⟨c0,c1,c2⟩:=HC.out _ hX1;go_wp2_with fail;refine (xH _ N pc pr pe kc kr ke s.pos s.ref (HV.out.below (hB.trans (hX1.mono hB.size)))).mono ?_;rintro e W2 ⟨rfl,hB2⟩;have hBx:=(hB.trans (hX1.mono hB.size)).trans (hB2.mono (hB.trans (hX1.mono hB.size)).size);have uM:=af ((HO.out.below' hB2).mono hB.size);cases hf:N.fin s.pos s.ref with
  | false=>
   have hacc:=HA.out.1.trans hf;have zx:=af hacc;clear hacc hf;go_wp2;go_ret2;exact ⟨hBx, .inl ⟨zx.out,rfl⟩⟩
  | true=>
   have hacc:=HA.out.1.trans hf;have zx:=af hacc;clear hacc hf;go_wp2;go_ret2;exact ⟨hBx, .inr ⟨zx.out,s.out,af (by rw [HA.out.2]),po,ko,rfl,uM.out⟩⟩
def fV:Cl→List Cl→Int
 | _,[]=>0
 | a,c::l=>(a.inter c).size+fV (a.union c) l
theorem jZ (l:List Cl):∀a,0≤fV a l:=by
 induction l with
 | nil=>intro a;exact Int.le_refl 0
 | cons c l ih=>intro a;have:=ih (a.union c);have:=nD (a.inter c);unfold fV;omega
theorem yz (l:List Cl):∀a:Cl,(l.foldl Cl.union a).size+fV a l=a.size+dA l:=by
 induction l with
 | nil=>intro a;show a.size+0=a.size+0;rfl
 | cons c l ih=>
  intro a;have h:=ih (a.union c);have h2:=xg a c;rw [BN,fV,dA,uL,Ep];unfold dA at h;omega
def bN:Cl→List Cl→Bool
 | a,[]=>decide (a.size=256)
 | a,c::l=>decide (c.size≠0) && (decide (¬0<(a.inter c).size) && bN (a.union c) l)
theorem zF (l:List Cl):∀a:Cl,bN a l=true↔(∀c∈l,c.size≠0)∧fV a l=0∧(l.foldl Cl.union a).size=256:=by
 induction l with
 | nil=>intro a;simp [bN,fV]
 | cons c l ih=>
  intro a;have h1:=nD (a.inter c);have h2:=jZ l (a.union c);unfold bN fV;rw [aX,aX,ih,BN];simp only [Cm,uW,forall_eq_or_imp];constructor
  ·rintro ⟨g1,g2,g3,g4,g5⟩;exact ⟨⟨g1,g3⟩,by omega,g5⟩
  ·rintro ⟨⟨g1,g3⟩,g4,g5⟩;exact ⟨g1,by omega,g3,by omega,g5⟩
theorem mZ (l:List Cl):bN zc l=true↔(∀c∈l,c.size≠0)∧dA l=256∧(dY l).size=256:=by
 rw [zF];have h:=yz l zc;have hz:zc.size=0:=by decide+kernel
 have hn:=jZ l zc;unfold dY;constructor
 ·rintro ⟨g1,g2,g3⟩;exact ⟨g1,by omega,g3⟩
 ·rintro ⟨g1,g2,g3⟩;exact ⟨g1,by omega,g3⟩
theorem mI {N:NZ} (h:N.valid=true):N.uG:=by
 have hu:=((aJ N).1 h).2.2.2.1;intro b;have hm:=(zk _).1 hu b.toNat b.toNat_lt;unfold dY at hm;rw [o7,show zc.mem b.toNat=false from vJ _,zG,List.any_eq_true] at hm;obtain ⟨c,hc,hb⟩:=hm;have hlt:N.cls.findIdx (fun c=>c.has b)<N.cls.length:=List.findIdx_lt_length_of_exists ⟨c,hc,by rw [xB];exact hb⟩;refine ⟨_,hlt,?_⟩;unfold kU;rw [aF hlt]
theorem D7 (x:UInt64) (r:Nat):((X x / 2 ^ r) % 2==1)=x.toNat.testBit r:=by
 unfold X;rw [Nat.testBit_eq_decide_div_mod_eq];have h:(x.toNat:Int) / 2 ^ r % 2=((x.toNat / 2 ^ r % 2:Nat):Int):=by simp
 rw [h,DT];simp;omega
theorem vP (w:World) (c:Cl) (b:UInt8):Calls Tryz.prog 155 #[.agg (aC c), .int .u8 (b.toNat:Int)] w fun e w'=>e= .returned (.bool (c.mem b.toNat))∧Below w.heap.size w w':=by
 obtain ⟨q,r,hq,hr,hn⟩:∃q r,q<4∧r<64∧b.toNat=64 * q+r:=⟨b.toNat / 64,b.toNat % 64,by have:=b.toNat_lt;omega,by omega,by omega⟩
 have hh:c.mem b.toNat=(c.w q).toNat.testBit r:=by rw [hn];exact c.rq q r hr
 rw [hh];have hrow:Row oV (w.alloc (.cells (aC c) 117)) w.heap.size 117 (aS c):=Row.new _ _ rfl;have hB:Below w.heap.size w (w.alloc (.cells (aC c) 117)):=(aI _ _).alloc (aj _) _;have hc:(w.alloc (.cells (aC c) 117)).cell? ⟨w.heap.size,q,none⟩=some (.int .u64 (X (c.w q))):=by rw [hrow.cell?,sV c q hq];rfl
 have d1:((b.toNat:Int)).tdiv 64=(q:Int):=by rw [hn,Gs (by omega)];omega
 have d2:((b.toNat:Int)).tmod 64=(r:Int):=by rw [hn,zO (by omega)];omega
 have d3:(b.toNat:Int) / 64=(q:Int):=by omega
 have d4:(b.toNat:Int) % 64=(r:Int):=by omega
 have x0:=dU (c.w q>>>UInt64.ofNat r);have x1:=mh (c.w q) r hr;have x2:(X (c.w q>>>UInt64.ofNat r)).tmod 2=X (c.w q>>>UInt64.ofNat r) % 2:=zO x0;clear hn hrow hh;go_enter Tryz.func155,Tryz.ntmps155;go_upto_region 1 with (fail);generalize (w.alloc (.cells (aC c) 117))=W at hB hc ⊢;have hq':(q:Int)<4:=by omega
 go_wp2_with fail;go_ret;exact ⟨by rw [← D7,x1];rfl,hB⟩
theorem zV (w:World) (c:Cl) (b:UInt8):Calls Tryz.prog 156 #[.agg (aC c), .int .u8 (b.toNat:Int)] w fun e w'=>e= .returned (.agg (aC (c.add b.toNat)))∧Below w.heap.size w w':=by
 obtain ⟨q,r,hq,hr,hn⟩:∃q r,q<4∧r<64∧b.toNat=64 * q+r:=⟨b.toNat / 64,b.toNat % 64,by have:=b.toNat_lt;omega,by omega,by omega⟩
 have hh:c.add b.toNat=c.setW q (c.w q ||| ((1:UInt64)<<<UInt64.ofNat r)):=by
  unfold Cl.add;rw [show b.toNat / 64=q by omega,show b.toNat % 64=r by omega]
 rw [hh]
 have hset:(aS c).set q (ow (X (c.w q ||| ((1:UInt64)<<<UInt64.ofNat r))))=aS (c.setW q (c.w q ||| ((1:UInt64)<<<UInt64.ofNat r))):=by
  rcases (by omega:q=0∨q=1∨q=2∨q=3) with rfl | rfl | rfl | rfl<;>rfl
 have d1:((b.toNat:Int)).tdiv 64=(q:Int):=by rw [hn,Gs (by omega)];omega
 have d2:((b.toNat:Int)).tmod 64=(r:Int):=by rw [hn,zO (by omega)];omega
 have d3:(b.toNat:Int) / 64=(q:Int):=by omega
 have d4:(b.toNat:Int) % 64=(r:Int):=by omega
 have x1:=CU r hr;have x2:=FR (c.w q) ((1:UInt64)<<<UInt64.ofNat r);have hq':(q:Int)<4:=by omega
 clear hn hh;go_enter Tryz.func156,Tryz.ntmps156;go_upto_region 1 with (fail)
 obtain ⟨W,hW,hB,hs,r2,r4⟩:∃W,((w.alloc (.cells (aC c) 117)).alloc (.cells #[.int .u64 0, .int .u64 0, .int .u64 0, .int .u64 0] 117))=W∧Below w.heap.size w W∧w.heap.size+2≤W.heap.size∧Row oV W w.heap.size 117 (aS c)∧Row oV W (w.heap.size+1) 117 [ow 0,ow 0,ow 0,ow 0]:=by
  refine ⟨_,rfl,ai (ai (aI _ _) (aj _) _) (aj _) _,by simp,?_,?_⟩
  all_goals repeat (first | (refine bG _ _ _ ?_;(simp;done)) | (refine (oI _ _ _ ?_).trans ?_;·(simp<;>omega)))
 rw [hW];clear hW;have hc:W.cell? ⟨w.heap.size,q,none⟩=some (.int .u64 (X (c.w q))):=by rw [r2.cell?,sV c q hq];rfl
 have f2:=r2.frozen q;go_upto_region 3 with (fail);generalize hv:(c.w q ||| ((1:UInt64)<<<UInt64.ofNat r))=v at *;have hB2:=aQ hB (b:=w.heap.size) q (aj _) (.int .u64 (X v))
 have s2:Row oV (W.setCell ⟨w.heap.size,q,none⟩ (.int .u64 (X v))) w.heap.size 117 (aS (c.setW q v)):=by
  rw [← hset];exact r2.set q (ow (X v))
 have s4:=r4.aB (b':=w.heap.size) (by omega) q (.int .u64 (X v));generalize (W.setCell ⟨w.heap.size,q,none⟩ (.int .u64 (X v)))=W2 at *
 go_wp2_with (first
  | ((with_reducible refine zL s2.at aA rfl (C:=aC (c.setW q v)) ?_))
  | ((with_reducible refine zS (l':=aS (c.setW q v)) s4 aA ?_);(intro W6 hs6 iI yt)))
 refine o6 (dQ (f:=oV) (l:=aS (c.setW q v)) rfl _ aA (w.heap.size+1) 0 rfl hs6.at) rfl ?_;exact ⟨by rw [hv];rfl,hB2.grown iI hB2.size (fun k e=>by cases e;omega)⟩
theorem Ez (w:World) (a:Cl) (b:Cl):Calls Tryz.prog 100 #[.agg (aC a), .agg (aC b)] w fun e w'=>e= .returned (.agg (aC (a.union b)))∧Below w.heap.size w w':=by
 go_enter Tryz.func100,Tryz.ntmps100;go_upto_region 1 with (fail)
 obtain ⟨W,hW,hB,hs,r0,r1,r2⟩:∃W,(((w.alloc (.cells (aC a) 117)).alloc (.cells (aC b) 117)).alloc (.cells #[.int .u64 0, .int .u64 0, .int .u64 0, .int .u64 0] 117))=W∧Below w.heap.size w W∧w.heap.size+3≤W.heap.size∧Row oV W (w.heap.size) 117 (aS a)∧Row oV W (w.heap.size+1) 117 (aS b)∧Row oV W (w.heap.size+1+1) 117 [ow 0,ow 0,ow 0,ow 0]:=by
  refine ⟨_,rfl,(ai (ai (ai (aI _ _) (aj _) _) (aj _) _) (aj _) _),by simp,?_,?_,?_⟩
  all_goals repeat (first | (refine bG _ _ _ ?_;(simp;done)) | (refine (oI _ _ _ ?_).trans ?_;·(simp<;>omega)))
 rw [hW];clear hW;have hz:Row oV (W.alloc (.cells #[.int .u64 0, .int .u64 0, .int .u64 0, .int .u64 0] 117)) W.heap.size 117 [ow 0,ow 0,ow 0,ow 0]:=Row.new _ _ rfl;go_upto_region 2 with (((with_reducible refine zS (l':=[ow 0,ow 0,ow 0,ow 0]) hz aA ?_);(intro W1 hs1 hG1 hz1)));have hb1:=lZ (aI W.heap.size W) hG1;replace r0:=r0.below hb1 r0.lt;replace r1:=r1.below hb1 r1.lt;replace r2:=r2.below hb1 r2.lt;replace hB:=hB.trans (hb1.mono hB.size);have hlc:w.heap.size+1+1<W.heap.size∧w.heap.size≤W.heap.size:=by omega
 generalize hcb:W.heap.size=cb at *;clear hs hz hG1 hz1 hb1 hcb W;have HP:∃p:Nat→Bool,Hid (p=fun i=>a.mem i || b.mem i):=⟨_,af rfl⟩
 obtain ⟨p,HP⟩:=HP;go_upto_region 3 with (fail)
 go_loopw [6] (fun i wr=>∃(k:Nat),k≤256∧i= .int .i64 k∧Row oV wr cb 117 (aS (aO p k))∧Below cb W1 wr) (fun i _=>256 - (intOf i).toNat)
 case atStart=>exact ⟨0,by omega,rfl,hs1,aI _ _⟩
 case round=>
  obtain ⟨k,hk,rfl,hR,hb⟩:=hrel;replace r0:=r0.below hb (by omega);replace r1:=r1.below hb (by omega);replace r2:=r2.below hb (by omega);replace hB:=hB.trans (hb.mono (by omega));have hcw:=hs1.lt;by_cases hlt:k<256
  ·have hq:(k:Int)<256:=by omega
   have hbk:(UInt8.ofNat k).toNat=k:=by simp;omega
   have hw8:IntKind.u8.wrap (k:Int)=(k:Int):=by rw [yN];omega
   have y9:=af (kR p k);have hpk:Hid (p k=(a.mem k || b.mem k)):=af (by rw [HP.out]);clear hs1;go_wp2_with ((with_reducible refine zL r0.at aA rfl (C:=aC a) ?_));have hc:=vP wr a (UInt8.ofNat k);rw [hbk] at hc;refine hc.mono ?_;clear hc;rintro e w3 ⟨rfl,hb3⟩;replace hb:=hb.trans (hb3.mono (uH hR.lt));replace hR:=hR.below hb3 hR.lt;replace r0:=r0.below hb3 r0.lt;replace r1:=r1.below hb3 r1.lt;replace r2:=r2.below hb3 r2.lt;clear hb3;cases hm:a.mem k with
   | true=>
    have hpt:Hid (p k=true):=af (by rw [hpk.out,hm];rfl);go_wp2_with ((with_reducible refine zL hR.at aA rfl (C:=aC (aO p k)) ?_));have hc:=zV w3 (aO p k) (UInt8.ofNat k);rw [hbk] at hc;refine hc.mono ?_;clear hc;rintro e w5 ⟨rfl,hb5⟩;replace hb:=hb.trans (hb5.mono (uH hR.lt));replace hR:=hR.below hb5 hR.lt;have hF:(aO p k).add k=aO p (k+1):=by rw [y9.out,aF hpt.out]
    rw [hF];clear hF;go_wp2_with (((with_reducible refine zS (l':=aS (aO p (k+1))) hR aA ?_);(intro w6 hs6 iI yt)))
    go_roundw
    case rel=>exact ⟨k+1,by omega,by go_num,hs6,hb.grown iI (uH hR.lt) (fun j e=>by cases e;exact aj _)⟩
    case measure=>simp [intOf];omega
   | false=>
    go_wp2_with ((with_reducible refine kg (f:=oV) (l:=aS b) (C:=aC b) aA (.tmp 3) ?_ ?_ (w.heap.size+1) 0 ?_ r1.at rfl ?_);rfl;rfl;rfl);have hc:=vP w3 b (UInt8.ofNat k);rw [hbk] at hc;refine hc.mono ?_;clear hc;rintro e w4 ⟨rfl,hb4⟩;replace hb:=hb.trans (hb4.mono (uH hR.lt));replace hR:=hR.below hb4 hR.lt;replace r0:=r0.below hb4 r0.lt;replace r1:=r1.below hb4 r1.lt;replace r2:=r2.below hb4 r2.lt;clear hb4;cases hn:b.mem k with
    | true=>
     have hpt:Hid (p k=true):=af (by rw [hpk.out,hm,hn];rfl);go_wp2_with ((with_reducible refine zL hR.at aA rfl (C:=aC (aO p k)) ?_));have hc:=zV w4 (aO p k) (UInt8.ofNat k);rw [hbk] at hc;refine hc.mono ?_;clear hc;rintro e w5 ⟨rfl,hb5⟩;replace hb:=hb.trans (hb5.mono (uH hR.lt));replace hR:=hR.below hb5 hR.lt;have hF:(aO p k).add k=aO p (k+1):=by rw [y9.out,aF hpt.out]
     rw [hF];clear hF;go_wp2_with (((with_reducible refine zS (l':=aS (aO p (k+1))) hR aA ?_);(intro w6 hs6 iI yt)))
     go_roundw
     case rel=>exact ⟨k+1,by omega,by go_num,hs6,hb.grown iI (uH hR.lt) (fun j e=>by cases e;exact aj _)⟩
     case measure=>simp [intOf];omega
    | false=>
     have hpt:Hid (p k=false):=af (by rw [hpk.out,hm,hn];rfl);have hF:aO p (k+1)=aO p k:=by rw [y9.out,av (by rw [hpt.out];decide)]
     replace hF:=af hF;go_wp2_with fail
     go_roundw
     case rel=>exact ⟨k+1,by omega,by go_num,by rw [hF.out];exact hR,hb⟩
     case measure=>simp [intOf];omega
  ·have he:k=256:=by omega
   subst he;have hF:aO p 256=a.union b:=by rw [HP.out];exact ym a b
   rw [hF] at hR;clear hF;generalize hv:a.union b=v at *
   go_wp2_with (first
    | ((with_reducible refine zL hR.at aA rfl (C:=aC v) ?_))
    | ((with_reducible refine zS (l':=aS v) r2 aA ?_);(intro W6 hs6 iI yt)))
   refine o6 (dQ (f:=oV) (l:=aS v) rfl _ aA (w.heap.size+1+1) 0 rfl hs6.at) rfl ?_;exact ⟨by rw [hv];rfl,hB.grown iI hB.size (fun j e=>by cases e;omega)⟩
theorem ET (w:World) (a:Cl) (b:Cl):Calls Tryz.prog 99 #[.agg (aC a), .agg (aC b)] w fun e w'=>e= .returned (.agg (aC (a.inter b)))∧Below w.heap.size w w':=by
 go_enter Tryz.func99,Tryz.ntmps99;go_upto_region 1 with (fail)
 obtain ⟨W,hW,hB,hs,r0,r1,r2⟩:∃W,(((w.alloc (.cells (aC a) 117)).alloc (.cells (aC b) 117)).alloc (.cells #[.int .u64 0, .int .u64 0, .int .u64 0, .int .u64 0] 117))=W∧Below w.heap.size w W∧w.heap.size+3≤W.heap.size∧Row oV W (w.heap.size) 117 (aS a)∧Row oV W (w.heap.size+1) 117 (aS b)∧Row oV W (w.heap.size+1+1) 117 [ow 0,ow 0,ow 0,ow 0]:=by
  refine ⟨_,rfl,(ai (ai (ai (aI _ _) (aj _) _) (aj _) _) (aj _) _),by simp,?_,?_,?_⟩
  all_goals repeat (first | (refine bG _ _ _ ?_;(simp;done)) | (refine (oI _ _ _ ?_).trans ?_;·(simp<;>omega)))
 rw [hW];clear hW;have hz:Row oV (W.alloc (.cells #[.int .u64 0, .int .u64 0, .int .u64 0, .int .u64 0] 117)) W.heap.size 117 [ow 0,ow 0,ow 0,ow 0]:=Row.new _ _ rfl;go_upto_region 2 with (((with_reducible refine zS (l':=[ow 0,ow 0,ow 0,ow 0]) hz aA ?_);(intro W1 hs1 hG1 hz1)));have hb1:=lZ (aI W.heap.size W) hG1;replace r0:=r0.below hb1 r0.lt;replace r1:=r1.below hb1 r1.lt;replace r2:=r2.below hb1 r2.lt;replace hB:=hB.trans (hb1.mono hB.size);have hlc:w.heap.size+1+1<W.heap.size∧w.heap.size≤W.heap.size:=by omega
 generalize hcb:W.heap.size=cb at *;clear hs hz hG1 hz1 hb1 hcb W;have HP:∃p:Nat→Bool,Hid (p=fun i=>a.mem i && b.mem i):=⟨_,af rfl⟩
 obtain ⟨p,HP⟩:=HP;go_upto_region 3 with (fail)
 go_loopw [6] (fun i wr=>∃(k:Nat),k≤256∧i= .int .i64 k∧Row oV wr cb 117 (aS (aO p k))∧Below cb W1 wr) (fun i _=>256 - (intOf i).toNat)
 case atStart=>exact ⟨0,by omega,rfl,hs1,aI _ _⟩
 case round=>
  obtain ⟨k,hk,rfl,hR,hb⟩:=hrel;replace r0:=r0.below hb (by omega);replace r1:=r1.below hb (by omega);replace r2:=r2.below hb (by omega);replace hB:=hB.trans (hb.mono (by omega));have hcw:=hs1.lt;by_cases hlt:k<256
  ·have hq:(k:Int)<256:=by omega
   have hbk:(UInt8.ofNat k).toNat=k:=by simp;omega
   have hw8:IntKind.u8.wrap (k:Int)=(k:Int):=by rw [yN];omega
   have y9:=af (kR p k);have hpk:Hid (p k=(a.mem k && b.mem k)):=af (by rw [HP.out]);clear hs1;go_wp2_with ((with_reducible refine zL r0.at aA rfl (C:=aC a) ?_));have hc:=vP wr a (UInt8.ofNat k);rw [hbk] at hc;refine hc.mono ?_;clear hc;rintro e w3 ⟨rfl,hb3⟩;replace hb:=hb.trans (hb3.mono (uH hR.lt));replace hR:=hR.below hb3 hR.lt;replace r0:=r0.below hb3 r0.lt;replace r1:=r1.below hb3 r1.lt;replace r2:=r2.below hb3 r2.lt;clear hb3;cases hm:a.mem k with
   | false=>
    have hpt:Hid (p k=false):=af (by rw [hpk.out,hm];rfl);have hF:aO p (k+1)=aO p k:=by rw [y9.out,av (by rw [hpt.out];decide)]
    replace hF:=af hF;go_wp2_with fail
    go_roundw
    case rel=>exact ⟨k+1,by omega,by go_num,by rw [hF.out];exact hR,hb⟩
    case measure=>simp [intOf];omega
   | true=>
    go_wp2_with ((with_reducible refine kg (f:=oV) (l:=aS b) (C:=aC b) aA (.tmp 3) ?_ ?_ (w.heap.size+1) 0 ?_ r1.at rfl ?_);rfl;rfl;rfl);have hc:=vP w3 b (UInt8.ofNat k);rw [hbk] at hc;refine hc.mono ?_;clear hc;rintro e w4 ⟨rfl,hb4⟩;replace hb:=hb.trans (hb4.mono (uH hR.lt));replace hR:=hR.below hb4 hR.lt;replace r0:=r0.below hb4 r0.lt;replace r1:=r1.below hb4 r1.lt;replace r2:=r2.below hb4 r2.lt;clear hb4;cases hn:b.mem k with
    | true=>
     have hpt:Hid (p k=true):=af (by rw [hpk.out,hm,hn];rfl);go_wp2_with ((with_reducible refine zL hR.at aA rfl (C:=aC (aO p k)) ?_));have hc:=zV w4 (aO p k) (UInt8.ofNat k);rw [hbk] at hc;refine hc.mono ?_;clear hc;rintro e w5 ⟨rfl,hb5⟩;replace hb:=hb.trans (hb5.mono (uH hR.lt));replace hR:=hR.below hb5 hR.lt;have hF:(aO p k).add k=aO p (k+1):=by rw [y9.out,aF hpt.out]
     rw [hF];clear hF;go_wp2_with (((with_reducible refine zS (l':=aS (aO p (k+1))) hR aA ?_);(intro w6 hs6 iI yt)))
     go_roundw
     case rel=>exact ⟨k+1,by omega,by go_num,hs6,hb.grown iI (uH hR.lt) (fun j e=>by cases e;exact aj _)⟩
     case measure=>simp [intOf];omega
    | false=>
     have hpt:Hid (p k=false):=af (by rw [hpk.out,hm,hn];rfl);have hF:aO p (k+1)=aO p k:=by rw [y9.out,av (by rw [hpt.out];decide)]
     replace hF:=af hF;go_wp2_with fail
     go_roundw
     case rel=>exact ⟨k+1,by omega,by go_num,by rw [hF.out];exact hR,hb⟩
     case measure=>simp [intOf];omega
  ·have he:k=256:=by omega
   subst he;have hF:aO p 256=a.inter b:=by rw [HP.out];exact yQ a b
   rw [hF] at hR;clear hF;generalize hv:a.inter b=v at *
   go_wp2_with (first
    | ((with_reducible refine zL hR.at aA rfl (C:=aC v) ?_))
    | ((with_reducible refine zS (l':=aS v) r2 aA ?_);(intro W6 hs6 iI yt)))
   refine o6 (dQ (f:=oV) (l:=aS v) rfl _ aA (w.heap.size+1+1) 0 rfl hs6.at) rfl ?_;exact ⟨by rw [hv];rfl,hB.grown iI hB.size (fun j e=>by cases e;omega)⟩
def cZ (p:Nat→Bool) (n:Nat):List UInt8:=((List.range n).filter p).map UInt8.ofNat
theorem xC (p:Nat→Bool) (n:Nat):cZ p (n+1)=if p n=true then cZ p n++[UInt8.ofNat n] else cZ p n:=by
 unfold cZ;rw [List.range_succ,List.filter_append];by_cases h:p n=true<;>simp [h]
theorem Cb (p:Nat→Bool) (n:Nat):(cZ p n).length≤n:=by
 unfold cZ;rw [yS];exact gp (List.length_filter_le _ _) (by simp)
theorem yH (c:Cl):((cZ c.mem 256).length:Int)=c.size:=by
 rw [dN];unfold cZ;rw [yS,List.countP_eq_length_filter]
theorem EL (w:World) (c:Cl):Calls Tryz.prog 154 #[.agg (aC c)] w fun e w'=>∃p k,e= .returned (.slice p (cZ c.mem 256).length k)∧Mem.Own bg w' w.heap.size 5 (.slice p (cZ c.mem 256).length k) (cZ c.mem 256)∧Below w.heap.size w w':=by
 go_enter Tryz.func154,Tryz.ntmps154;go_upto_region 1 with (fail)
 obtain ⟨W,hW,hB,hs,r0⟩:∃W,(w.alloc (.cells (aC c) 117))=W∧Below w.heap.size w W∧w.heap.size+1≤W.heap.size∧Row oV W w.heap.size 117 (aS c):=
  ⟨_,rfl,ai (aI _ _) (aj _) _,by simp,Row.new _ _ rfl⟩
 rw [hW];clear hW;have hL0:Mem.Own bg (W.alloc (.cells #[] 5)) W.heap.size 5 (.slice (some ⟨W.heap.size,0,none⟩) 0 0) ([]:List UInt8):=Own.new W _ W.heap.size (aj _) rfl (by simp);have hb0:=ai (aI W.heap.size W) (aj _) (.cells #[] 5);replace hL0:=af hL0;replace hb0:=af hb0;replace r0:=af r0;go_upto_region 3 with (fail);generalize (W.alloc (.cells #[] 5))=W1 at *
 go_loopw [3,4] (fun s3 s4 wr=>∃(k:Nat) (p:Option Addr) (cc:Nat),k≤256∧s4= .int .i64 k∧s3= .slice p (cZ c.mem k).length cc∧Hid (Mem.Own bg wr W.heap.size 5 (.slice p (cZ c.mem k).length cc) (cZ c.mem k))∧Below W.heap.size W wr) (fun _ i _=>256 - (intOf i).toNat)
 case atStart=>exact ⟨0,_,_,by omega,rfl,rfl,hL0,hb0.out⟩
 case round=>
  clear hL0 hb0;obtain ⟨k,p,cc,hk,rfl,rfl,HL,hb⟩:=hrel;have hr:=r0.out.below hb (by omega);by_cases hlt:k<256
  ·have hq:(k:Int)<256:=by omega
   have hbk:(UInt8.ofNat k).toNat=k:=by simp;omega
   have hw8:IntKind.u8.wrap (k:Int)=(k:Int):=by rw [yN];omega
   have hms:=af (xC c.mem k);have hml:=Cb c.mem k;go_wp2_with ((with_reducible refine zL hr.at aA rfl (C:=aC c) ?_));have hc:=vP wr c (UInt8.ofNat k);rw [hbk] at hc;refine hc.mono ?_;rintro e W2 ⟨rfl,hb2⟩;clear hc hr;have HL2:=af (HL.out.below' hb2);have hb3:=hb.trans (hb2.mono hb.size);have hbs:=hb3.size;clear HL hb hb2;cases hm:c.mem k with
   | true=>
    have vR:Hid (cZ c.mem k++[UInt8.ofNat k]=cZ c.mem (k+1)):=af (by rw [hms.out,aF hm]);go_wp2_with (at_builtin;(with_reducible refine dJ qE (.tmp 14) (.tmp 17) ?_ ?_ gD ?_ HL2.out (UInt8.ofNat k) _ ?_ _ ?_ ?_ ?_ ?_ (cZ c.mem (k+1)) ?_ ?_);rfl;rfl;rfl;(show Value.int .u8 _=Value.int .u8 _;rw [hbk]);rfl;(omega);(omega);(omega);(exact vR.out);(intro p3 c3 W3 hO3 hB3 hG3))
    go_roundw
    case rel=>exact ⟨k+1,p3,c3,by omega,by go_num,rfl,af hO3,hb3.trans hB3⟩
    case measure=>simp [intOf]<;>omega
   | false=>
    have vR:cZ c.mem (k+1)=cZ c.mem k:=by rw [hms.out,hm];rfl
    replace vR:=af vR;go_wp2_with fail
    go_roundw
    case rel=>exact ⟨k+1,p,cc,by omega,by go_num,by rw [vR.out],by rw [vR.out];exact HL2,hb3⟩
    case measure=>simp [intOf]<;>omega
  ·obtain rfl:k=256:=by omega
   go_wp2_with fail;go_ret;exact ⟨p,cc,rfl,HL.out.mono hB.size,hB.trans (hb.mono hB.size)⟩
theorem zf (w:World) (c:Cl):Calls Tryz.prog 98 #[.agg (aC c)] w fun e w'=>e= .returned (.int .i64 c.size)∧Below w.heap.size w w':=by
 go_enter Tryz.func98,Tryz.ntmps98;go_upto_region 1 with (fail)
 obtain ⟨W,hW,hB,r0⟩:∃W,(w.alloc (.cells (aC c) 117))=W∧Below w.heap.size w W∧Row oV W w.heap.size 117 (aS c):=
  ⟨_,rfl,ai (aI _ _) (aj _) _,Row.new _ _ rfl⟩
 rw [hW];clear hW;go_wp2_with ((with_reducible refine zL r0.at aA rfl (C:=aC c) ?_));refine (EL W c).mono ?_;rintro e W2 ⟨p,k,rfl,_,hb⟩;have hm:=af (yH c);go_wp2_with fail;go_ret;exact ⟨by first | (rw [hm.out];rfl) | rw [hm.out],hB.trans (hb.mono hB.size)⟩
theorem xI (w:World) (v:Value) (l:List Cl) (b:UInt8) (hv:fq 4 aS w v l) (hn:l.length≤4294967296):
  Calls Tryz.prog 102 #[v, .int .u8 (b.toNat:Int)] w fun e w'=>e= .returned (.int .i64 (kU l b))∧Below w.heap.size w w':=by
 have HV:=af hv;obtain ⟨p,cp,rfl⟩:=hv.slice;clear hv;go_enter Tryz.func102,Tryz.ntmps102;go_wp2_with fail
 go_loopw [5] (fun i wr=>∃(k:Nat),k≤l.length∧i= .int .i64 k∧(∀j (h:j<l.length),j<k→l[j].has b=false)∧Below w.heap.size w wr) (fun i _=>l.length - (intOf i).toNat)
 case atStart=>exact ⟨0,by omega,rfl,fun j h hj=>by omega,aI _ _⟩
 case round=>
  obtain ⟨k,hk,rfl,hno,hB⟩:=hrel;have jE:=af hno;clear hno;by_cases hlt:k<l.length
  ·obtain ⟨bb,bo,rfl,hA,hcap,hbl⟩:=HV.out.elem k hlt;have hA2:=hA.below hB hbl;have hq:(k:Int)<(l.length:Int):=by omega
   clear hA
   go_wp2_with (first
    | ((with_reducible refine zL hA2 aA rfl (C:=aC l[k]) ?_)))
   have hc:=vP wr l[k] b;rw [← xB] at hc;refine hc.mono ?_;clear hc;rintro e w2 ⟨rfl,hB2⟩;replace hB:=hB.trans (hB2.mono hB.size);clear hA2 hB2;cases hh:l[k].has b with
   | true=>
    have hi:=xN l b k hlt hh jE.out;go_wp2;go_ret;exact ⟨by first | rfl | (rw [hi];rfl),hB⟩
   | false=>
    go_wp2_with fail
    go_roundw
    case rel=>
     refine ⟨k+1,by omega,by go_num,fun j h hj=> ?_,hB⟩;rcases o8 j k with h1 | h1
     ·exact jE.out j h h1
     ·obtain rfl:j=k:=by omega
      exact hh
    case measure=>simp [intOf];omega
  ·have hi:=sZ l b (fun j h=>jE.out j h (by omega));have hq:¬(k:Int)<(l.length:Int):=by omega
   go_wp2;go_ret;exact ⟨by first | rfl | (rw [hi];rfl),hB⟩
theorem xq (w:World) (v:Value) (l:List Cl) (hv:fq 4 aS w v l) (hn:l.length≤4294967296):Calls Tryz.prog 64 #[v] w fun e w'=>e= .returned (.bool (bN zc l))∧Below w.heap.size w w':=by
 have HV:=af hv;obtain ⟨p,cp,rfl⟩:=hv.slice;clear hv;go_enter Tryz.func64,Tryz.ntmps64;have hZ:Row oV (w.alloc (.cells og 117)) w.heap.size 117 [ow 0,ow 0,ow 0,ow 0]:=Row.new _ _ rfl;go_upto_region 2 with (((with_reducible refine zS (l':=aS zc) hZ aA ?_);(intro W hs hG hz)));have hB:=lZ (aI w.heap.size w) hG;have Jl:=af hs;have GA:w.heap.size<W.heap.size:=hs.lt;clear hZ hs hG hz;go_upto_region 3 with (fail)
 go_loopw [4] (fun s4 wr=>∃(k:Nat) (a:Cl),k≤l.length∧s4= .int .i64 k∧Hid (bN zc l=bN a (l.drop k))∧Hid (Row oV wr w.heap.size 117 (aS a))∧Below w.heap.size w wr) (fun i _=>l.length - (intOf i).toNat)
 case atStart=>exact ⟨0,zc,by omega,rfl,af rfl,Jl,hB⟩
 case round=>
  clear Jl hB GA W;obtain ⟨k,a,hk,rfl,HP,HU,hB⟩:=hrel;have hl3:w.heap.size<wr.heap.size:=HU.out.lt;by_cases hlt:k<l.length
  ·obtain ⟨bb,bo,rfl,hA,hcap,hbl⟩:=HV.out.elem k hlt;have HA:Hid (∀Y,Below wr.heap.size wr Y→At oV Y bb (bo+k * 4) (aS (l[k]'hlt))):=af fun Y hY=>hA.below (hB.trans (hY.mono hB.size)) hbl;have hq:(k:Int)<(l.length:Int):=by omega
   have hpe:bN zc l=(decide ((l[k]'hlt).size≠0) && (decide (¬0<(a.inter (l[k]'hlt)).size) && bN (a.union (l[k]'hlt)) (l.drop (k+1)))):=by rw [HP.out,Hr hlt,bN]
   have Fu:Hid ((l[k]'hlt).size=0→bN zc l=false):=af fun h=>by rw [hpe,h];simp
   have FB:Hid (0<(a.inter (l[k]'hlt)).size→bN zc l=false):=af fun h=>by rw [hpe,cB (fun h2:¬0<(a.inter (l[k]'hlt)).size=>h2 h)];simp
   have EH:Hid (¬(l[k]'hlt).size=0→¬0<(a.inter (l[k]'hlt)).size→bN zc l=bN (a.union (l[k]'hlt)) (l.drop (k+1))):=af fun h h2=>by rw [hpe,dI h,dI h2];rfl
   clear hpe;clear hA HP;generalize l[k]'hlt=c at *;go_wp2_with fail;go_cut [27] (fun Ke wx=>Ke= .bool (decide (c.size=0) || decide (0<(a.inter c).size))∧Below wr.heap.size wr wx)
   ·refine wp_region_held_drew (S:=fun XX=>Below wr.heap.size wr XX) rfl (aI _ _).drew fun hS=> ?_;refine bD 0 12 (.slice (some ⟨bb,bo,none⟩) l.length cp) hS ?_;refine bD 1 13 (.int .i64 k) hS ?_;refine bD 2 14 (.pointer (some ⟨bb,bo+k * 4,none⟩)) hS ?_ rfl yg;refine bD 3 15 (.agg (aC c)) hS ?_ rfl (aH (f:=oV) (l:=aS c) aA (.tmp 14) rfl bb (bo+k * 4) rfl (fun W' h=>HA.out W' h) rfl rfl);refine xO 4 (fun K' hK=> ?_);refine cD 16 98 #[.agg (aC c)] ?_;refine (zf _ c).mono ?_;rintro e A1 ⟨rfl,hBx⟩;replace hS:=hS.trans (hBx.mono hS.size);refine ⟨_,rfl,hK.out _ _ hS fun _=> ?_⟩;clear hK hBx;simp only [sA,sB,sC];by_cases h0:c.size=0
    ·have hd0:(c.size==0)=true:=by simpa using h0
     refine bD 5 17 (.bool true) hS ?_ rfl yg;refine bD 6 18 (.bool true) hS ?_;refine qy 7 19 undef hS ?_;refine qy 8 20 undef hS ?_;refine qy 9 21 undef hS ?_;refine qy 10 22 undef hS ?_;refine qy 11 23 undef hS ?_;refine qy 12 24 undef hS ?_;refine qy 13 25 undef hS ?_;refine qy 14 26 undef hS ?_;refine bD 15 27 (.bool true) hS ?_;refine wpAnyH_done (by kernel_rfl) ?_ _;go_wp2;go_meet;exact ⟨by rw [dI h0];rfl,hS⟩
    ·have hd0:(c.size==0)=false:=by simpa using h0
     refine bD 5 17 (.bool false) hS ?_ rfl yg;refine bD 6 18 (.bool false) hS ?_;refine bD 7 19 (.agg (aC a)) hS ?_ rfl (aH (f:=oV) (l:=aS a) aA (.tmp 3) rfl w.heap.size 0 rfl (fun W' h=>(HU.out.below h hl3).at) rfl rfl);refine bD 8 20 (.slice (some ⟨bb,bo,none⟩) l.length cp) hS ?_;refine bD 9 21 (.int .i64 k) hS ?_;refine bD 10 22 (.pointer (some ⟨bb,bo+k * 4,none⟩)) hS ?_ rfl yg;refine bD 11 23 (.agg (aC c)) hS ?_ rfl (aH (f:=oV) (l:=aS c) aA (.tmp 22) rfl bb (bo+k * 4) rfl (fun W' h=>HA.out W' h) rfl rfl);refine xO 12 (fun K' hK=> ?_);refine cD 24 99 #[.agg (aC a), .agg (aC c)] ?_;refine (ET _ a c).mono ?_;rintro e A2 ⟨rfl,hBx⟩;replace hS:=hS.trans (hBx.mono hS.size);refine ⟨_,rfl,hK.out _ _ hS fun _=> ?_⟩;clear hK hBx;simp only [sA,sB,sC];refine xO 13 (fun K' hK=> ?_);refine cD 25 98 #[.agg (aC (a.inter c))] ?_;refine (zf _ (a.inter c)).mono ?_;rintro e A3 ⟨rfl,hBx⟩;replace hS:=hS.trans (hBx.mono hS.size);refine ⟨_,rfl,hK.out _ _ hS fun _=> ?_⟩;clear hK hBx;simp only [sA,sB,sC];by_cases h1:0<(a.inter c).size
     ·have hd1:decide (0<(a.inter c).size)=true:=by simpa using h1
      refine bD 14 26 (.bool true) hS ?_ rfl yg;refine bD 15 27 (.bool true) hS ?_;refine wpAnyH_done (by kernel_rfl) ?_ _;go_wp2;go_meet;exact ⟨by rw [cB h0,hd1];rfl,hS⟩
     ·have hd1:decide (0<(a.inter c).size)=false:=by simpa using h1
      refine bD 14 26 (.bool false) hS ?_ rfl yg;refine bD 15 27 (.bool false) hS ?_;refine wpAnyH_done (by kernel_rfl) ?_ _;go_wp2;go_meet;exact ⟨by rw [cB h0,hd1];rfl,hS⟩
   obtain ⟨rfl,hb⟩:=hcut;obtain ⟨Z,hz0⟩:∃Z,Z=wc:=⟨_,rfl⟩
   subst hz0;by_cases h0:c.size=0
   ·have hp:Hid (bN zc l=false):=af (Fu.out h0);rw [dI h0,Bool.true_or];clear Fu FB EH;go_wp2_with fail;go_ret;exact ⟨by first | (rw [hp.out];rfl) | rw [hp.out],hB.trans (hb.mono hB.size)⟩
   by_cases h1:0<(a.inter c).size
   ·have hp:Hid (bN zc l=false):=af (FB.out h1);rw [cB h0,dI h1,Bool.or_true];clear Fu FB EH;go_wp2_with fail;go_ret;exact ⟨by first | (rw [hp.out];rfl) | rw [hp.out],hB.trans (hb.mono hB.size)⟩
   rw [cB h0,cB h1,Cw];have BJ:Hid (bN zc l=bN (a.union c) (l.drop (k+1))):=af (EH.out h0 (by omega));clear Fu FB EH;replace HU:=af (HU.out.below hb hl3);replace HA:Hid (∀Y,Below Z.heap.size Z Y→At oV Y bb (bo+k * 4) (aS c)):=af fun Y hY=>HA.out Y (hb.trans (hY.mono hb.size));replace hB:=hB.trans (hb.mono hB.size);replace hl3:w.heap.size<Z.heap.size:=HU.out.lt;clear hb h0 h1;go_upto_region 7 with (fail);refine aT (S:=fun X=>Below Z.heap.size Z X) 6 rfl (by kernel_rfl) (aI _ _).drew fun hS=> ?_;refine tk 0 28 (.agg (aC a)) hS ?_ rfl (aH (f:=oV) (l:=aS a) aA (.tmp 3) rfl w.heap.size 0 rfl (fun W' h=>(HU.out.below h hl3).at) rfl rfl);refine tk 1 29 (.slice (some ⟨bb,bo,none⟩) l.length cp) hS ?_;refine tk 2 30 (.int .i64 k) hS ?_;refine tk 3 31 (.pointer (some ⟨bb,bo+k * 4,none⟩)) hS ?_ rfl yg;refine tk 4 32 (.agg (aC c)) hS ?_ rfl (aH (f:=oV) (l:=aS c) aA (.tmp 31) rfl bb (bo+k * 4) rfl (fun W' h=>HA.out W' h) rfl rfl);refine mG 5 (fun K' hK=> ?_);refine cD 33 100 #[.agg (aC a), .agg (aC c)] ?_;refine (Ez _ a c).mono ?_;rintro e A4 ⟨rfl,hBx⟩;replace hS:=hS.trans (hBx.mono hS.size);refine ⟨_,rfl,hK.out _ _ hS fun _=> ?_⟩;clear hK hBx;simp only [sA,sB,sC];refine aW (by kernel_rfl) ?_;simp only [List.drop];have E9:=HU.out.below hS hl3;generalize hv:a.union c=v at *;go_wp2_with (((with_reducible refine zS (l':=aS v) E9 aA ?_);(intro w6 hs6 iI yt)))
   go_roundw
   case rel=>exact ⟨k+1,v,by omega,by go_num,BJ,af hs6,(hB.trans (hS.mono hB.size)).grown iI (gp hB.size hS.size) (fun j e=>by cases e;exact aj _)⟩
   case measure=>simp [intOf];omega
  ·obtain rfl:k=l.length:=by omega
   have hq:¬(l.length:Int)<(l.length:Int):=by omega
   have BJ:Hid (bN zc l=decide (a.size=256)):=af (by rw [HP.out,List.drop_length];rfl);have hr:=HU.out;clear HP;go_wp2_with ((with_reducible refine zL hr.at aA rfl (C:=aC a) ?_));refine (zf wr a).mono ?_;rintro e W2 ⟨rfl,hb⟩;clear hr;by_cases hz:a.size=256
   ·go_wp2_with fail;go_ret;exact ⟨by first | (rw [BJ.out,dI hz];rfl) | rw [BJ.out,dI hz],hB.trans (hb.mono hB.size)⟩
   ·have hz2:(a.size==256)=false:=by simpa using hz
    go_wp2_with fail;go_ret;exact ⟨by first | (rw [BJ.out,cB hz];rfl) | rw [BJ.out,cB hz],hB.trans (hb.mono hB.size)⟩
theorem rW {N:NZ} (h:N.valid=true):bN zc N.cls=true:=(mZ _).2 ⟨((aJ N).1 h).2.1,((aJ N).1 h).2.2.1,((aJ N).1 h).2.2.2.1⟩
theorem rD {N:NZ} (h0:N.cls.length≤256∧1≤N.rows.length∧N.rows.length≤64∧N.ends.length=N.rows.length) (hp:bN zc N.cls=true) (hr:∀r∈N.rows,r.length=N.cls.length∧r.any (·.bad N.rows.length)=false):N.valid=true:=by
 obtain ⟨h1,h2,h3⟩:=(mZ _).1 hp;exact (aJ N).2 ⟨h0,h1,h2,h3,hr⟩
theorem Av (w:World) (v:Value) (N:NZ) (hv:dB w v N):
  Calls Tryz.prog 37 #[v] w fun e w'=>e= .returned (.bool N.valid)∧Below w.heap.size w w':=by
 have HV:=af hv;obtain ⟨vc,vr,ve,rfl,h1,h2,h3⟩:=hv;obtain ⟨pc,kc,rfl⟩:=h1.slice;obtain ⟨pr,kr,rfl⟩:=h2.slice;obtain ⟨pe,ke,rfl⟩:=h3.slice;have HC:=af h1;have HR:=af h2;clear h1 h2 h3;go_enter Tryz.func37,Tryz.ntmps37;go_upto_region 1 with (fail)
 obtain ⟨W,hW,hB,hs,g0⟩:∃W,(w.alloc (.cells #[.slice pc N.cls.length kc, .slice pr N.rows.length kr, .slice pe N.ends.length ke] 61))=W∧Below w.heap.size w W∧w.heap.size+1≤W.heap.size∧W.heap[w.heap.size]?=some (.cells #[.slice pc N.cls.length kc, .slice pr N.rows.length kr, .slice pe N.ends.length ke] 61 (0,0)):=
  ⟨_,rfl,(aI _ _).alloc (aj _) _,by simp,World.alloc_heap_new _ _⟩
 rw [hW];clear hW
 have HF:Hid (∀X,Below (w.heap.size+1) W X→X.cell? ⟨w.heap.size,0,none⟩=some (.slice pc N.cls.length kc)∧X.cell? ⟨w.heap.size,1,none⟩=some (.slice pr N.rows.length kr)∧X.cell? ⟨w.heap.size,2,none⟩=some (.slice pe N.ends.length ke)∧fq 4 aS X (.slice pc N.cls.length kc) N.cls∧rP X (.slice pr N.rows.length kr) N.rows∧Below w.heap.size w X∧w.heap.size+1≤X.heap.size):=af fun X hX=>by
  have hX0:Below w.heap.size w X:=hB.trans (hX.mono (uQ _));have hg:=(hX.block w.heap.size (qQ _)).trans g0;refine ⟨?_,?_,?_,HC.out.below hX0,HR.out.below hX0,hX0,gp hs hX.size⟩<;>(unfold World.cell?;rw [hg];rfl)
 have hX:Below (w.heap.size+1) W W:=aI _ _;clear hB hs g0;obtain ⟨p0,p1,p2,hc,_,hw,hs⟩:=HF.out W hX;have no:∀b:Bool,(¬(N.cls.length≤256∧1≤N.rows.length∧N.rows.length≤64∧N.ends.length=N.rows.length))→N.valid=false:=fun b h=>by unfold NZ.valid;rw [cB h];rfl
 replace hc:=af hc;by_cases q1:(256:Int)<(N.cls.length:Int)
 ·have hv:=no true (by omega);have d1:decide ((256:Int)<(N.cls.length:Int))=true:=dI q1;go_wp2;go_ret;exact ⟨by first | rfl | (rw [hv];rfl),hw⟩
 have d1:decide ((256:Int)<(N.cls.length:Int))=false:=cB q1;go_wp2_with fail;refine (xq W _ N.cls hc.out (by omega)).mono ?_;rintro e W1 ⟨rfl,hb⟩;replace hX:=hX.trans (hb.mono hs);clear p0 p1 p2 hw hs hb hc;obtain ⟨p0,p1,p2,_,_,hw,hs⟩:=HF.out W1 hX;cases hp:bN zc N.cls with
 | false=>
  have hv:N.valid=false:=dL fun h=>by have:=rW h;rw [hp] at this;cases this
  replace hv:=af hv;clear hp;go_wp2;go_ret;exact ⟨by first | (rw [hv.out];rfl) | rw [hv.out],hw⟩
 | true=>
 replace hp:=af hp;by_cases q2:(N.rows.length:Int)<1
 ·have hv:=no true (by omega);have JL:decide ((N.rows.length:Int)<1)=true:=dI q2;clear no;go_wp2;go_ret;exact ⟨by first | rfl | (rw [hv];rfl),hw⟩
 have JL:decide ((N.rows.length:Int)<1)=false:=cB q2;by_cases q3:(64:Int)<(N.rows.length:Int)
 ·have hv:=no true (by omega);have JD:decide ((64:Int)<(N.rows.length:Int))=true:=dI q3;clear no;go_wp2;go_ret;exact ⟨by first | rfl | (rw [hv];rfl),hw⟩
 have JD:decide ((64:Int)<(N.rows.length:Int))=false:=cB q3;by_cases q4:(N.ends.length:Int)=(N.rows.length:Int)
 rotate_left
 ·have hv:=no true (by omega);have JC:((N.ends.length:Int) !=(N.rows.length:Int))=true:=by simpa using q4
  clear no;go_wp2;go_ret;exact ⟨by first | rfl | (rw [hv];rfl),hw⟩
 have hcl:N.cls.length≤256:=by omega
 have hrl:1≤N.rows.length∧N.rows.length≤64:=by omega
 have h0:Hid (N.cls.length≤256∧1≤N.rows.length∧N.rows.length≤64∧N.ends.length=N.rows.length):=af (by omega);have JC:((N.ends.length:Int) !=(N.rows.length:Int))=false:=by simpa using q4
 clear no;replace hX:=af hX;go_wp2_with fail;clear p0 p1 p2 hw hs d1 JL JD JC q1 q2 q3 q4
 go_loopw [3] (fun i wr=>∃(k:Nat),k≤N.rows.length∧i= .int .i64 k∧Below (w.heap.size+1) W wr∧Hid (∀j (h:j<N.rows.length),j<k→N.rows[j].length=N.cls.length∧N.rows[j].any (·.bad N.rows.length)=false)) (fun i _=>N.rows.length - (intOf i).toNat)
 case atStart=>exact ⟨0,by omega,rfl,hX.out,af fun j h hj=>by omega⟩
 case round=>
  clear hX;obtain ⟨k,hk,rfl,hX,iE⟩:=hrel;obtain ⟨p0,p1,p2,_,hR,hw,hs⟩:=HF.out _ hX;by_cases hlt:k<N.rows.length
  ·obtain ⟨bb,bo,u,rfl,hu,kM,hcap,hbl⟩:=hR.elem k hlt;obtain ⟨pu,cu,rfl⟩:=kM.slice;have hq:(k:Int)<(N.rows.length:Int):=by omega
   have HU:Hid (∀Y,Below wr.heap.size wr Y→Y.cell? ⟨bb,bo+k,none⟩=some (.slice pu (N.rows[k]'hlt).length cu)∧fq 3 dH Y (.slice pu (N.rows[k]'hlt).length cu) (N.rows[k]'hlt)):=af fun Y hY=>⟨(hY.cell (p:=⟨bb,bo+k,none⟩) hbl).trans hu,kM.below hY⟩;have hmem:Hid ((N.rows[k]'hlt)∈N.rows):=af (uV hlt);clear hR kM;obtain ⟨row,hrow⟩:∃row,row=N.rows[k]'hlt:=⟨_,rfl⟩
   rw [← hrow] at HU hu hmem;replace hrow:=af hrow;by_cases z3:(row.length:Int)=(N.cls.length:Int)
   rotate_left
   ·have hv:N.valid=false:=dL fun h=>z3 (by have:=(((aJ N).1 h).2.2.2.2 _ hmem.out).1;omega);have d3:((row.length:Int) !=(N.cls.length:Int))=true:=by simpa using z3
    replace hv:=af hv;have hwd:=hw.drew;go_upto_region 6 with (fail);go_region;go_wp2;go_ret;exact ⟨by first | (rw [hv.out];rfl) | rw [hv.out],hwd⟩
   have d3:((row.length:Int) !=(N.cls.length:Int))=false:=by simpa using z3
   go_upto_region 6 with (fail);go_region;go_wp2_with fail;have J4:=af hX.drew;clear p0 p1 p2 hw hs hu d3;obtain ⟨Wk,hz0⟩:∃Z,Z=wr:=⟨_,rfl⟩
   subst hz0
   go_loopw [4] (fun i wq=>∃(m:Nat),m≤row.length∧i= .int .i64 m∧Below Wk.heap.size Wk wq∧Hid (∀j (h:j<row.length),j<m→row[j].bad N.rows.length=false)) (fun i _=>row.length - (intOf i).toNat)
   case atStart=>exact ⟨0,by omega,rfl,(aI _ _).drew,af fun j h hj=>by omega⟩
   case round=>
    clear J4;obtain ⟨m,hm,rfl,hY,HBAD⟩:=hrel;have hX2:=hX.trans (hY.mono (HF.out _ hX).2.2.2.2.2.2);obtain ⟨p0,p1,p2,_,_,hw,hs⟩:=HF.out _ hX2;obtain ⟨hu,kM⟩:=HU.out _ hY;by_cases hml:m<row.length
    ·obtain ⟨b2,o2,rfl,hA,hcap2,KE⟩:=kM.elem m hml;have hq2:(m:Int)<(row.length:Int):=by omega
     have Ho:Hid ((row[m]'hml)∈row):=af (uV hml)
     have HB2:Hid ((row[m]'hml).bad N.rows.length=false→∀j (h:j<row.length),j<m+1→row[j].bad N.rows.length=false):=af fun hb j h hj=>by
      rcases o8 j m with h1 | h1
      ·exact HBAD.out j h h1
      ·obtain rfl:j=m:=by omega
       exact hb
     generalize row[m]'hml=c at *;have Iz:Row oV (wr.alloc (.cells #[.int .i64 0, .int .i64 0, .int .u8 0] 98)) wr.heap.size 98 [oi 0,oi 0,⟨.int .u8 0,rfl⟩]:=Row.new _ _ rfl
     go_upto_region 12 with (first
      | ((with_reducible refine zL hA iq rfl (C:=jo c) ?_))
      | ((with_reducible refine zS (l':=dH c) Iz iq ?_);(intro W2 hs2 hG2 hz2)))
     have hY2:=(hY.alloc hY.size (.cells #[.int .i64 0, .int .i64 0, .int .u8 0] 98)).grown hG2 (by simp;have:=hY.size;omega) (fun k e=>by cases e;exact hY.size);have BB:=hX.trans (hY2.mono (HF.out _ hX).2.2.2.2.2.2);have c0:W2.cell? ⟨wr.heap.size,0,none⟩=some (.int .i64 c.tgt):=by rw [hs2.cell?];rfl
     have c1:W2.cell? ⟨wr.heap.size,1,none⟩=some (.int .i64 c.act):=by rw [hs2.cell?];rfl
     have c2:W2.cell? ⟨wr.heap.size,2,none⟩=some (.int .u8 (c.b.toNat:Int)):=by rw [hs2.cell?];rfl
     clear p0 p1 p2 hw hs hu kM hA hG2 hz2 Iz hs2;obtain ⟨p0,p1,p2,_,_,hw,hs⟩:=HF.out _ BB;have Iw:=(aI W2.heap.size W2)
     replace Iw:=af Iw;rw [AJ];go_cut [102] (fun JB wx=>JB= .bool (c.bad N.rows.length)∧wx=W2)
     ·by_cases h1:c.tgt<0
      ·have hv:c.bad N.rows.length=true:=dI (by omega);have e1:decide (c.tgt<0)=true:=dI h1;go_wp2;go_meet;exact ⟨by rw [hv],rfl⟩
      have e1:decide (c.tgt<0)=false:=cB h1;by_cases h2:(N.rows.length:Int)≤c.tgt
      ·have hv:c.bad N.rows.length=true:=dI (by omega);have e2:decide ((N.rows.length:Int)≤c.tgt)=true:=dI h2;go_wp2;go_meet;exact ⟨by rw [hv],rfl⟩
      have e2:decide ((N.rows.length:Int)≤c.tgt)=false:=cB h2;by_cases h3:c.act<0
      ·have hv:c.bad N.rows.length=true:=dI (by omega);have e3:decide (c.act<0)=true:=dI h3;go_wp2;go_meet;exact ⟨by rw [hv],rfl⟩
      have e3:decide (c.act<0)=false:=cB h3;by_cases h4:3<c.act
      ·have hv:c.bad N.rows.length=true:=dI (by omega);have e4:decide (3<c.act)=true:=dI h4;go_wp2;go_meet;exact ⟨by rw [hv],rfl⟩
      have e4:decide (3<c.act)=false:=cB h4;by_cases h5:c.act=2
      ·have hv:c.bad N.rows.length=false:=cB (by omega);have h5':(c.act !=2)=false:=by simpa using h5
       go_wp2;go_meet;exact ⟨by rw [hv],rfl⟩
      have h5':(c.act !=2)=true:=by simpa using h5
      by_cases h6:(c.b.toNat:Int)=0
      ·have hv:c.bad N.rows.length=false:=cB (by omega);have h6':((c.b.toNat:Int) !=0)=false:=by simpa using h6
       clear h6;go_wp2;go_meet;exact ⟨by rw [hv],rfl⟩
      ·have h6':((c.b.toNat:Int) !=0)=true:=by simpa using h6
       have hv:c.bad N.rows.length=true:=dI (by omega);go_wp2;go_meet;exact ⟨by rw [hv],rfl⟩
     obtain ⟨Ap,rfl⟩:=hcut;obtain ⟨Z2,hz0⟩:∃Z,Z=wc:=⟨_,rfl⟩
     subst hz0;clear c0 c1 c2;cases hbad:c.bad N.rows.length with
     | true=>
      have hv:N.valid=false:=dL fun h=>by
       have:=(((aJ N).1 h).2.2.2.2 _ hmem.out).2;rw [zT] at this;exact this _ Ho.out hbad
      replace hv:=af hv;rw [hbad] at Ap;subst Ap;go_wp2;go_ret;exact ⟨by first | (rw [hv.out];rfl) | rw [hv.out],hw⟩
     | false=>
      have hB3:=af (HB2.out hbad);rw [hbad] at Ap;subst Ap;go_wp2_with fail
      go_roundw
      case rel=>exact ⟨m+1,by omega,by go_num,hY2,hB3⟩
      case measure=>simp [intOf];omega
    ·obtain rfl:m=row.length:=by omega
     have hq2:¬(row.length:Int)<(row.length:Int):=by omega
     have IJ:Hid (∀j (h:j<N.rows.length),j<k+1→N.rows[j].length=N.cls.length∧N.rows[j].any (·.bad N.rows.length)=false):=af fun j h hj=>by
      rcases o8 j k with h1 | h1
      ·exact iE.out j h h1
      ·obtain rfl:j=k:=by omega
       rw [← hrow.out];refine ⟨by omega,?_⟩;rw [zT];intro x hx;obtain ⟨i,hi,rfl⟩:=BG hx;rw [HBAD.out i hi hi];simp
     clear hrow kM;go_wp2_with fail
     go_roundw
     case rel=>exact ⟨k+1,by omega,by go_num,hX2,IJ⟩
     case measure=>simp [intOf];omega
  ·have hv:N.valid=true:=rD h0.out hp.out fun r hr=>by obtain ⟨j,hj,rfl⟩:=BG hr;exact iE.out j hj (by omega)
   have hq:¬(k:Int)<(N.rows.length:Int):=by omega
   go_wp2;go_ret;exact ⟨by first | rfl | (rw [hv];rfl),hw⟩
theorem Aw (w:World) (N:NZ) (pc pr pe:Option Addr) (kc kr ke:Nat) (at_:Int) (r:Bool) (hv:dB w (.agg #[.slice pc N.cls.length kc, .slice pr N.rows.length kr, .slice pe N.ends.length ke]) N):
  Calls Tryz.prog 101 #[.agg #[.slice pc N.cls.length kc, .slice pr N.rows.length kr, .slice pe N.ends.length ke], .agg #[.int .i64 at_, .bool r]] w fun e w'=>e= .returned (.bool (N.bE at_))∧Below w.heap.size w w':=by
 have HV:=af hv;clear hv;go_enter Tryz.func101,Tryz.ntmps101;go_upto_region 1 with (fail)
 obtain ⟨W,hW,hB,hs,g0,g1⟩:∃W,((w.alloc (.cells #[.slice pc N.cls.length kc, .slice pr N.rows.length kr, .slice pe N.ends.length ke] 61)).alloc (.cells #[.int .i64 at_, .bool r] 162))=W∧Below w.heap.size w W∧w.heap.size+2≤W.heap.size∧W.heap[w.heap.size]?=some (.cells #[.slice pc N.cls.length kc, .slice pr N.rows.length kr, .slice pe N.ends.length ke] 61 (0,0))∧W.heap[w.heap.size+1]?=some (.cells #[.int .i64 at_, .bool r] 162 (0,0)):=by
  refine ⟨_,rfl,ai (ai (aI _ _) (aj _) _) (aj _) _,by simp,?_,?_⟩
  all_goals repeat (first | (refine bG _ _ _ ?_;(simp;done)) | (refine (oI _ _ _ ?_).trans ?_;·(simp<;>omega)))
 rw [hW];clear hW;have rn:Row oV W w.heap.size 61 [aV pc N.cls.length kc,aV pr N.rows.length kr,aV pe N.ends.length ke]:=g0;have rs:Row oV W (w.heap.size+1) 162 [oi at_,ob r]:=g1;clear g0 g1;have c0:W.cell? ⟨w.heap.size,0,none⟩=some (.slice pc N.cls.length kc):=by rw [rn.cell?];rfl
 have c1:W.cell? ⟨w.heap.size,1,none⟩=some (.slice pr N.rows.length kr):=by rw [rn.cell?];rfl
 have c2:W.cell? ⟨w.heap.size,2,none⟩=some (.slice pe N.ends.length ke):=by rw [rn.cell?];rfl
 go_wp2_with fail;refine (Av W _ N (HV.out.below hB)).mono ?_;rintro e W1 ⟨rfl,hB1⟩;replace rn:=rn.below hB1 rn.lt;replace rs:=rs.below hB1 rs.lt;replace hB:=hB.trans (hB1.mono hB.size);clear c0 c1 c2 hB1;have c1:W1.cell? ⟨w.heap.size,1,none⟩=some (.slice pr N.rows.length kr):=by rw [rn.cell?];rfl
 have s0:W1.cell? ⟨w.heap.size+1,0,none⟩=some (.int .i64 at_):=by rw [rs.cell?];rfl
 clear rn rs;cases hval:N.valid with
 | false=>
  have ho:Hid (N.bE at_=false):=af (by simp [NZ.bE,hval]);clear hval;go_wp2;go_ret;exact ⟨by first | (rw [ho.out];rfl) | rw [ho.out],hB⟩
 | true=>
  by_cases q1:0≤at_
  ·have b1:decide (0≤at_)=true:=dI q1;by_cases q2:at_<(N.rows.length:Int)
   ·have ho:Hid (N.bE at_=true):=af (by unfold NZ.bE;rw [dI ⟨q1,q2⟩,hval];rfl);have b2:decide (at_<(N.rows.length:Int))=true:=dI q2;clear hval;go_wp2;go_ret;exact ⟨by first | (rw [ho.out];rfl) | rw [ho.out],hB⟩
   ·have ho:Hid (N.bE at_=false):=af (by unfold NZ.bE;rw [cB (fun h=>q2 h.2)];simp);have b2:decide (at_<(N.rows.length:Int))=false:=cB q2;clear hval;go_wp2;go_ret;exact ⟨by first | (rw [ho.out];rfl) | rw [ho.out],hB⟩
  ·have ho:Hid (N.bE at_=false):=af (by unfold NZ.bE;rw [cB (fun h=>q1 h.1)];simp);have b1:decide (0≤at_)=false:=cB q1;clear hval;go_wp2;go_ret;exact ⟨by first | (rw [ho.out];rfl) | rw [ho.out],hB⟩
theorem NZ.jv (N:NZ) (s:gQ) (a b:List UInt8):N.run s (a++b)=N.run (N.run s a) b:=by
 unfold NZ.run;rw [EJ]
def gQ.Inv (s:gQ):Prop:=s.ref=true→s.pos=0
theorem NZ.oU (N:NZ) (s:gQ) (b:UInt8) (h:s.Inv):(N.step s b).Inv:=by
 unfold NZ.step;split
 ·exact h
 ·intro hr;have h3:(N.cell s.pos.toNat b).act=3:=of_decide_eq_true hr;show (N.cell s.pos.toNat b).next=0;unfold Ce.next;rw [aF h3]
theorem NZ.kQ (N:NZ) (bs:List UInt8):∀s:gQ,s.Inv→(N.run s bs).Inv:=by
 induction bs with
 | nil=>exact fun s h=>h
 | cons b bs ih=>exact fun s h=>ih _ (N.oU s b h)
theorem NZ.Bj (N:NZ) (p:Int) (r:Bool) (o o':List UInt8) (b:UInt8):N.step ⟨p,r,o'++o⟩ b=⟨(N.step ⟨p,r,o⟩ b).pos,(N.step ⟨p,r,o⟩ b).ref,o'++(N.step ⟨p,r,o⟩ b).out⟩:=by
 unfold NZ.step;cases r with
 | true=>rfl
 | false=>simp
theorem NZ.Ej (N:NZ) (bs:List UInt8):∀(p:Int) (r:Bool) (o o':List UInt8),N.run ⟨p,r,o'++o⟩ bs=⟨(N.run ⟨p,r,o⟩ bs).pos,(N.run ⟨p,r,o⟩ bs).ref,o'++(N.run ⟨p,r,o⟩ bs).out⟩:=by
 induction bs with
 | nil=>exact fun p r o o'=>rfl
 | cons b bs ih=>
  intro p r o o';show N.run (N.step ⟨p,r,o'++o⟩ b) bs=_;rw [NZ.Bj,ih];rfl
theorem NZ.pK (N:NZ) (s:gQ) (bs:List UInt8) (h:s.Inv):N.run s bs=⟨(N.run ⟨dw s.ref s.pos,s.ref,[]⟩ bs).pos,(N.run ⟨dw s.ref s.pos,s.ref,[]⟩ bs).ref,s.out++(N.run ⟨dw s.ref s.pos,s.ref,[]⟩ bs).out⟩:=by
 have e:dw s.ref s.pos=s.pos:=by
  unfold dw;split
  ·rename_i hr;exact (h hr).symm
  ·rfl
 rw [e,← NZ.Ej,AR]
theorem NZ.yJ {N:NZ} (hv:N.valid=true) (dZ:N.uG) (bs:List UInt8):∀s:gQ,(0≤s.pos∧s.pos<(N.rows.length:Int))→0≤(N.run s bs).pos∧(N.run s bs).pos<(N.rows.length:Int):=by
 induction bs with
 | nil=>exact fun s h=>h
 | cons b bs ih=>exact fun s h=>ih _ (step_pos hv dZ s h b)
theorem NZ.nZ {N:NZ} (hv:N.valid=true) {p:Int} (h:0≤p∧p<(N.rows.length:Int)):N.bE p=true:=by
 unfold NZ.bE;rw [hv,wF];exact dI h
theorem NZ.pG {N:NZ} (hv:N.valid=true):(0:Int)≤0∧(0:Int)<(N.rows.length:Int):=⟨Int.le_refl _,by have:=((aJ N).1 hv).1.2.1;omega⟩
abbrev st0:gQ:=⟨0,false,[]⟩
theorem xA:gQ.Inv st0:=fun h=>by cases h
theorem NZ.EK {N:NZ} (hv:N.valid=true) (bs:List UInt8):N.acc bs=N.fin (N.run st0 bs).pos (N.run st0 bs).ref:=by
 unfold NZ.acc;rw [NZ.nZ hv (NZ.pG hv),wF]
theorem Ce.om (c:Ce) (b:UInt8):(c.out b).length≤1:=by
 unfold Ce.out;split
 ·simp
 ·split<;>simp
theorem NZ.Dr (N:NZ) (s:gQ) (b:UInt8):(N.step s b).out.length≤s.out.length+1:=by
 unfold NZ.step;split
 ·omega
 ·have:=Ce.om (N.cell s.pos.toNat b) b;simp only [fG];omega
theorem NZ.om (N:NZ) (bs:List UInt8):∀s:gQ,(N.run s bs).out.length≤s.out.length+bs.length:=by
 induction bs with
 | nil=>exact fun s=>Nat.le_add_right _ _
 | cons b bs ih=>
  intro s;have h1:=ih (N.step s b);have h2:=N.Dr s b;show (N.run (N.step s b) bs).out.length≤_;rw [jM];omega
theorem NZ.three {N:NZ} (hv:N.valid=true) (dZ:N.uG) (x y z:List UInt8) (s t u:gQ) (hs:s=N.run ⟨0,false,[]⟩ x) (ht:t=N.run ⟨dw s.ref s.pos,s.ref,[]⟩ y) (hu:u=N.run ⟨dw t.ref t.pos,t.ref,[]⟩ z):
  N.bE 0=true∧N.bE s.pos=true∧N.bE t.pos=true∧N.acc (x++(y++z))=N.fin u.pos u.ref∧s.out++(t.out++u.out)=(N.run ⟨0,false,[]⟩ (x++(y++z))).out:=by
 have i1:s.Inv:=by rw [hs];exact N.kQ x _ xA
 have p1:0≤s.pos∧s.pos<(N.rows.length:Int):=by rw [hs];exact NZ.yJ hv dZ x _ (NZ.pG hv)
 have e2:=N.pK s y i1;rw [← ht] at e2;have i2:(N.run s y).Inv:=N.kQ y _ i1;have p2:0≤t.pos∧t.pos<(N.rows.length:Int):=by have:=NZ.yJ hv dZ y _ p1;rw [e2] at this;exact this
 have e3:=N.pK (N.run s y) z i2;rw [e2] at e3;simp only at e3;rw [← hu] at e3;have e4:N.run ⟨0,false,[]⟩ (x++(y++z))=⟨u.pos,u.ref,s.out++t.out++u.out⟩:=by rw [NZ.jv,← hs,NZ.jv,e2,e3]
 refine ⟨NZ.nZ hv (NZ.pG hv),NZ.nZ hv p1,NZ.nZ hv p2,?_,?_⟩
 ·rw [NZ.EK hv];show N.fin (N.run ⟨0,false,[]⟩ _).pos (N.run ⟨0,false,[]⟩ _).ref=_;rw [e4]
 ·rw [e4,List.append_assoc]
theorem NZ.begins {N:NZ} (hv:N.valid=true) (dZ:N.uG) (x y:List UInt8):(N.run ⟨0,false,[]⟩ x).out<+:(N.run ⟨0,false,[]⟩ (x++y)).out:=by
 have _:=dZ;have _:=hv;rw [NZ.jv,N.pK _ y (N.kQ x _ xA)];exact List.prefix_append _ _
theorem NZ.Be (N:NZ) (bs:List UInt8):∀s:gQ,s.ref=true→N.run s bs=s:=by
 induction bs with
 | nil=>intro s _;rfl
 | cons b bs ih=>
  intro s h;have h1:N.step s b=s:=by unfold NZ.step;rw [aF h]
  show N.run (N.step s b) bs=s;rw [h1];exact ih s h
theorem NZ.EX (N:NZ) (s:gQ) (bs:List UInt8) (k:Nat):N.run s bs=N.run (N.run s (bs.take k)) (bs.drop k):=by
 rw [← NZ.jv,List.take_append_drop]
theorem Dy {w:World} {N:NZ} {pc pr pe:Option Addr} {kc kr ke:Nat} (hv:dB w (.agg #[.slice pc N.cls.length kc, .slice pr N.rows.length kr, .slice pe N.ends.length ke]) N) (hval:N.valid=true) (k:Nat) (hk:k<N.rows.length) (b:UInt8):
  ∃(rb ro ub uo n ku i:Nat),pr=some ⟨rb,ro,none⟩∧w.cell? ⟨rb,ro+k,none⟩=some (.slice (some ⟨ub,uo,none⟩) n ku)∧rb<w.heap.size∧At oV w ub (uo+i * 3) (dH (N.cell k b))∧ub<w.heap.size∧i<n∧n≤ku∧kU N.cls b=(i:Int)∧fq 4 aS w (.slice pc N.cls.length kc) N.cls∧N.cls.length≤256:=by
 have dZ:=mI hval;obtain ⟨vc,vr,ve,he,h1,h2,h3⟩:=hv
 obtain ⟨rfl,rfl,rfl⟩: .slice pc N.cls.length kc=vc∧ .slice pr N.rows.length kr=vr∧ .slice pe N.ends.length ke=ve:=by
  have:=congrArg (fun v=>match v with | Value.agg a=>a.toList | _=>[]) he;simpa using this
 obtain ⟨rb,ro,u,rfl,hu,kM,hcr,Bc⟩:=h2.elem k hk;obtain ⟨pu,ku,rfl⟩:=kM.slice;obtain ⟨i,hil,hi⟩:=dZ b;have hrl:=mH hval k hk;obtain ⟨ub,uo,rfl,hce,Fb,lub⟩:=kM.elem i (by omega)
 have hcell:N.cell k b=N.rows[k][i]'(by omega):=by
  unfold NZ.cell;rw [hi,dR hk];show (N.rows[k][(i:Int).toNat]?).getD _=_;rw [show (i:Int).toNat=i by simp,dR (by omega)];rfl
 rw [← hcell] at hce;exact ⟨rb,ro,ub,uo,_,ku,i,rfl,hu,Bc,hce,lub,by omega,Fb,hi,h1,((aJ N).1 hval).1.1⟩
theorem H9 (w:World) (N:NZ) (pc pr pe pu:Option Addr) (kc kr ke ku:Nat) (at_:Int) (r:Bool) (bs:List UInt8) (hv:dB w (.agg #[.slice pc N.cls.length kc, .slice pr N.rows.length kr, .slice pe N.ends.length ke]) N) (hu:Rd bg w (.slice pu bs.length ku) bs) (hbs:bs.length≤140737488351232):
  Calls Tryz.prog 65 #[.agg #[.slice pc N.cls.length kc, .slice pr N.rows.length kr, .slice pe N.ends.length ke], .agg #[.int .i64 at_, .bool r], .slice pu bs.length ku] w fun e w'=>Below w.heap.size w w'∧
   ((N.bE at_=false∧e= .returned (.tuple #[.agg #[.int .i64 0, .bool false], .slice none 0 0]))∨
   (N.bE at_=true∧∃s,Hid (s=N.run ⟨dw r at_,r,[]⟩ bs)∧∃po ko,e= .returned (.tuple #[.agg #[.int .i64 s.pos, .bool s.ref], .slice po s.out.length ko])∧Mem.Own bg w' w.heap.size 5 (.slice po s.out.length ko) s.out)):=by
 have HV:=af hv;have HU:=af hu;clear hv hu;go_enter Tryz.func65,Tryz.ntmps65;go_upto_region 1 with (fail)
 obtain ⟨W,hW,hB,hs,g0,g1,g2⟩:∃W,(((w.alloc (.cells #[.slice pc N.cls.length kc, .slice pr N.rows.length kr, .slice pe N.ends.length ke] 61)).alloc (.cells #[.int .i64 at_, .bool r] 162)).alloc (.cells #[.int .i64 0, .bool false] 162))=W∧Below w.heap.size w W∧w.heap.size+3≤W.heap.size∧W.heap[w.heap.size]?=some (.cells #[.slice pc N.cls.length kc, .slice pr N.rows.length kr, .slice pe N.ends.length ke] 61 (0,0))∧W.heap[w.heap.size+1]?=some (.cells #[.int .i64 at_, .bool r] 162 (0,0))∧W.heap[w.heap.size+1+1]?=some (.cells #[.int .i64 0, .bool false] 162 (0,0)):=by
  refine ⟨_,rfl,ai (ai (ai (aI _ _) (aj _) _) (aj _) _) (aj _) _,by simp,?_,?_,?_⟩
  all_goals repeat (first | (refine bG _ _ _ ?_;(simp;done)) | (refine (oI _ _ _ ?_).trans ?_;·(simp<;>omega)))
 rw [hW];clear hW
 have HC:Hid (∀X,Below W.heap.size W X→X.cell? ⟨w.heap.size,0,none⟩=some (.slice pc N.cls.length kc)∧X.cell? ⟨w.heap.size,1,none⟩=some (.slice pr N.rows.length kr)∧X.cell? ⟨w.heap.size,2,none⟩=some (.slice pe N.ends.length ke)∧X.cell? ⟨w.heap.size+1,0,none⟩=some (.int .i64 at_)∧X.cell? ⟨w.heap.size+1,1,none⟩=some (.bool r)∧Row oV X (w.heap.size+1+1) 162 [oi 0,ob false]):=af fun X hX=>by
  have h0:=(hX.block w.heap.size (by omega)).trans g0;have h1:=(hX.block (w.heap.size+1) (by omega)).trans g1;refine ⟨?_,?_,?_,?_,?_,(hX.block (w.heap.size+1+1) (by omega)).trans g2⟩<;>(unfold World.cell?;first | (rw [h0];rfl) | (rw [h1];rfl))
 clear g0 g1 g2;obtain ⟨c0,c1,c2,s0,s1,_⟩:=HC.out W (aI _ _);go_wp2_with fail;refine (Aw W N pc pr pe kc kr ke at_ r (HV.out.below hB)).mono ?_;rintro e W1 ⟨rfl,hB1⟩;have hBw:=hB.trans (hB1.mono hB.size);clear c0 c1 c2 s0 s1;obtain ⟨c0,c1,c2,s0,s1,Bw⟩:=HC.out W1 hB1;cases hok:N.bE at_ with
 | false=>
  have jE:=af hok;clear hok c0 c1 c2 s0 s1
  go_wp2_with (first
   | ((with_reducible refine zS (l':=[oi 0,ob false]) Bw fJ ?_);(intro W2 hs2 hG2 hz2)))
  refine o6 (v:= .tuple #[.agg #[.int .i64 0, .bool false], .slice none 0 0]) (dz (f:=oV) (l:=[oi 0,ob false]) (t:=7) rfl _ fJ (w.heap.size+1+1) 0 rfl hs2.at) rfl ?_;exact ⟨hBw.grown hG2 hBw.size (fun k e=>by cases e;omega), .inl ⟨jE.out,rfl⟩⟩
 | true=>
  have hval:N.valid=true:=by unfold NZ.bE at hok;rw [aX] at hok;exact hok.1
  have hat:0≤at_∧at_<(N.rows.length:Int):=by unfold NZ.bE at hok;rw [aX] at hok;exact of_decide_eq_true hok.2
  have iE:=af (And.intro hval (And.intro hok hat));have h00:Hid (0≤dw r at_∧dw r at_<(N.rows.length:Int)):=af (by unfold dw;split<;>omega);have xu:Hid (Mem.Own bg (W1.alloc (.cells #[] 5)) W.heap.size 5 (.slice (some ⟨W1.heap.size,0,none⟩) 0 0) ([]:List UInt8)):=af (Own.new W1 _ W.heap.size hB1.size rfl (by simp));have hX0:Hid (Below W.heap.size W (W1.alloc (.cells #[] 5))):=af (hB1.alloc hB1.size _);obtain ⟨a0,a1,a2,t0,t1,_⟩:=HC.out _ hX0.out;have Hg:Hid (Rd bg W (.slice pu bs.length ku) bs):=af (HU.out.below hB);have Kz:=af (HV.out.below hB);replace hB:=af hB;clear hok hval hat Bw hBw;go_upto_region 7 with (fail);clear a0 a1 a2 t0 t1 c0 c1 c2 s0 s1;generalize (W1.alloc (.cells #[] 5))=W2 at *;generalize W1.heap.size=n1 at *;clear hB1
  go_loopw [8,9,10,11] (fun s8 s9 s10 s11 wr=>∃(k:Nat) (s:gQ) (a:Int) (po:Option Addr) (ko:Nat),k≤bs.length∧s11= .int .i64 k∧s10= .bool s.ref∧s9= .int .i64 a∧s8= .slice po s.out.length ko∧Hid (s=N.run ⟨dw r at_,r,[]⟩ (bs.take k))∧Hid (s.ref=false→a=s.pos)∧Hid (0≤s.pos∧s.pos<(N.rows.length:Int))∧Hid (Mem.Own bg wr W.heap.size 5 (.slice po s.out.length ko) s.out)∧Below W.heap.size W wr) (fun _ _ _ i _=>bs.length - (intOf i).toNat)
  case atStart=>exact ⟨0,⟨dw r at_,r,[]⟩,at_,_,0,by omega,rfl,rfl,rfl,rfl,af rfl,af (fun h=>by show at_=dw r at_;have h2:r=false:=h;rw [h2];rfl),h00,xu,hX0.out⟩
  case round=>
   clear xu hX0 h00;obtain ⟨k,s,a,po,ko,hk,rfl,rfl,rfl,rfl,HR,HA,HP,HO,hX⟩:=hrel
   have hol:s.out.length≤bs.length:=by
    have h:=N.om (bs.take k) ⟨dw r at_,r,[]⟩;rw [← HR.out,List.length_take] at h;simp at h;omega
   by_cases hlt:k<bs.length
   ·have hq:(k:Int)<(bs.length:Int):=by omega
    cases hrf:s.ref with
    | true=>
     have hfin:Hid (s=N.run ⟨dw r at_,r,[]⟩ bs):=af (by rw [NZ.EX N ⟨dw r at_,r,[]⟩ bs k,← HR.out];exact (NZ.Be N _ s hrf).symm);obtain ⟨_,_,_,_,_,rz⟩:=HC.out _ hX
     have hp0:s.pos=0:=by
      have h:=NZ.kQ N bs ⟨dw r at_,r,[]⟩ (fun h=>by have h2:r=true:=h;show dw r at_=0;rw [h2];rfl);rw [← hfin.out] at h;exact h hrf
     have hsv:Hid (Value.agg #[.int .i64 0, .bool true]= .agg #[.int .i64 s.pos, .bool s.ref]):=af (by rw [hrf,hp0]);clear hrf hp0 HR HA HP
     go_wp2_with (first
      | ((with_reducible refine zS (l':=[oi 0,ob true]) rz fJ ?_);(intro W9 DC sw Js)))
     refine o6 (v:= .tuple #[.agg #[.int .i64 0, .bool true], .slice po s.out.length ko]) (dz (f:=oV) (l:=[oi 0,ob true]) (t:=7) rfl _ fJ (w.heap.size+1+1) 0 rfl DC.at) rfl ?_;have hBx:=hB.out.trans (hX.mono hB.out.size);exact ⟨hBx.grown sw hBx.size (fun k e=>by cases e;omega), .inr ⟨iE.out.2.1,s,hfin,po,ko,by rw [hsv.out],(HO.out.cK sw (fun g hg e=>by injection e with e;have h1:=(HO.out.lt g hg).1;omega)).mono hB.out.size⟩⟩
    | false=>
     obtain rfl:a=s.pos:=HA.out hrf;obtain ⟨p,hp⟩:∃p:Nat,s.pos=(p:Int):=⟨s.pos.toNat,by have:=HP.out;omega⟩
     have hpl:p<N.rows.length:=by have:=HP.out;omega
     have hpq:(p:Int)<(N.rows.length:Int):=by omega
     have hst:N.step s (bs[k]'hlt)=⟨(N.cell p (bs[k]'hlt)).next,(N.cell p (bs[k]'hlt)).refuses,s.out++(N.cell p (bs[k]'hlt)).out (bs[k]'hlt)⟩:=by
      unfold NZ.step;rw [av (by rw [hrf];decide),hp];rfl
     have hstp:Hid (0≤(N.step s (bs[k]'hlt)).pos∧(N.step s (bs[k]'hlt)).pos<(N.rows.length:Int)):=af (step_pos iE.out.1 (mI iE.out.1) s HP.out _);have uR:Hid (N.step s (bs[k]'hlt)=N.run ⟨dw r at_,r,[]⟩ (bs.take (k+1))):=af (by rw [vC N _ bs k hlt,← HR.out]);rw [hst] at hstp uR;rw [hp];obtain ⟨rb,ro,ub,uo,n,kn,i,rfl,hu1,Bc,hce,lub,hin,hnk,hidx,hcls,hcl⟩:=Dy (Kz.out.below hX) iE.out.1 p hpl (bs[k]'hlt)
     obtain ⟨bu,ou,rfl,hby⟩:∃b o,pu=some ⟨b,o,none⟩∧∀X,Below W.heap.size W X→X.cell? ⟨b,o+k,none⟩=some (.int .u8 ((bs[k]'hlt).toNat:Int)):=by
      rcases Hg.out with ⟨_,_,h0⟩ | ⟨b,o,cap,h1,_,ha,hl⟩
      ·rw [h0] at hlt;simp at hlt
      ·cases h1;exact ⟨b,o,rfl,fun X hX=>((hX.cell (p:=⟨b,o+k,none⟩) hl).trans (ha k hlt)).trans (by rw [dR hlt];rfl)⟩
     generalize N.cell p (bs[k]'hlt)=c at *;generalize bs[k]'hlt=b at *
     have HS:Hid (∀X,Below wr.heap.size wr X→X.cell? ⟨w.heap.size,1,none⟩=some (.slice (some ⟨rb,ro,none⟩) N.rows.length kr)∧X.cell? ⟨w.heap.size,0,none⟩=some (.slice pc N.cls.length kc)∧X.cell? ⟨rb,ro+p,none⟩=some (.slice (some ⟨ub,uo,none⟩) n kn)∧X.cell? ⟨bu,ou+k,none⟩=some (.int .u8 (b.toNat:Int))∧At oV X ub (uo+i * 3) (dH c)∧fq 4 aS X (.slice pc N.cls.length kc) N.cls):=af fun X hY=>by
      have h1:=HC.out X (hX.trans (hY.mono hX.size));exact ⟨h1.2.1,h1.1,(hY.cell (p:=⟨rb,ro+p,none⟩) Bc).trans hu1,hby X (hX.trans (hY.mono hX.size)),hce.below hY lub,hcls.below hY⟩
     have hqi:(i:Int)<(n:Int):=by omega
     replace hidx:=af hidx;replace hby:=af hby;replace hst:=af hst;clear hu1 hce hcls hp HP HA HR;go_upto_region 9 with (fail);go_cut [12] (fun s12 wx=>∃n4:Nat,s12= .pointer (some ⟨n4,0,none⟩)∧Row oV wx n4 98 (dH c)∧Below wr.heap.size wr wx∧wr.heap.size≤n4)
     ·refine aT (S:=fun X=>Below wr.heap.size wr X) 15 rfl (by kernel_rfl) (aI _ _).drew fun hS=> ?_;refine tk 0 33 (.pointer (some ⟨w.heap.size,1,none⟩)) hS ?_;refine tk 1 34 (.slice (some ⟨rb,ro,none⟩) N.rows.length kr) hS ?_ rfl (qi fun W' h=>by obtain ⟨q0,q1,q2,q3,_⟩:=HS.out W' h;go_simp);refine tk 2 35 (.int .i64 p) hS ?_;refine tk 3 36 (.pointer (some ⟨rb,ro+p,none⟩)) hS ?_ rfl yg;refine tk 4 37 (.slice (some ⟨ub,uo,none⟩) n kn) hS ?_ rfl (qi fun W' h=>by obtain ⟨q0,q1,q2,q3,_⟩:=HS.out W' h;go_simp);refine tk 5 38 (.pointer (some ⟨w.heap.size,0,none⟩)) hS ?_;refine tk 6 39 (.slice pc N.cls.length kc) hS ?_ rfl (qi fun W' h=>by obtain ⟨q0,q1,q2,q3,_⟩:=HS.out W' h;go_simp);refine tk 7 40 (.slice (some ⟨bu,ou,none⟩) bs.length ku) hS ?_;refine tk 8 41 (.int .i64 k) hS ?_;refine tk 9 42 (.pointer (some ⟨bu,ou+k,none⟩)) hS ?_ rfl yg;refine tk 10 43 (.int .u8 (b.toNat:Int)) hS ?_ rfl (qi fun W' h=>by obtain ⟨q0,q1,q2,q3,_⟩:=HS.out W' h;go_simp);refine jc (rs:=[11,14]) (by kernel_rfl) (by simp) (bq.cons (by omega) rfl (fun K' hK=> ?_) (bq.cons (by omega) rfl (fun K' hK=> ?_) bq.nil))
      ·refine cD 44 102 #[.slice pc N.cls.length kc, .int .u8 (b.toNat:Int)] ?_;refine (xI _ _ N.cls b (HS.out _ hS).2.2.2.2.2 (by omega)).mono ?_;rintro e Wb ⟨rfl,hBb⟩;replace hS:=hS.trans (hBb.mono hS.size);refine ⟨_,rfl,hK.out _ _ hS fun _=> ?_⟩;clear hK hBb;simp only [sA,sB,sC];rw [hidx.out];refine tk 12 45 (.pointer (some ⟨ub,uo+i * 3,none⟩)) hS ?_ rfl yg;refine tk 13 46 (.agg (jo c)) hS ?_ rfl (aH (f:=oV) (l:=dH c) iq (.tmp 45) rfl ub (uo+i * 3) rfl (fun W' h=>(HS.out W' h).2.2.2.2.1) rfl rfl);refine mG 14 (fun K' hK=> ?_);have hZ:Row oV (Wb.alloc (.cells #[.int .i64 0, .int .i64 0, .int .u8 0] 98)) Wb.heap.size 98 [oi 0,oi 0,⟨.int .u8 0,rfl⟩]:=Row.new _ _ rfl;have jG:wr.heap.size≤Wb.heap.size:=hS.size;replace hS:=hS.alloc hS.size (.cells #[.int .i64 0, .int .i64 0, .int .u8 0] 98);refine aD 12 (.cells #[.int .i64 0, .int .i64 0, .int .u8 0] 98) ?_;refine hK.out _ _ hS fun _=> ?_;clear hK;simp only [sA,sB,sC];generalize (Wb.alloc (.cells #[.int .i64 0, .int .i64 0, .int .u8 0] 98))=Wz at hS hZ ⊢;generalize Wb.heap.size=n4 at hZ jG ⊢;refine aW (by kernel_rfl) ?_;simp only [List.drop]
       go_wp2_with (first
        | ((with_reducible refine zS (l':=dH c) hZ iq ?_);(intro We hse yX Im)))
       go_meet;exact ⟨n4,rfl,hse,hS.grown yX hS.size (fun k e=>by cases e;exact jG),jG⟩
      ·generalize wr.drew=Wd at hS ⊢;have hZ:Row oV (Wd.alloc (.cells #[.int .i64 0, .int .i64 0, .int .u8 0] 98)) Wd.heap.size 98 [oi 0,oi 0,⟨.int .u8 0,rfl⟩]:=Row.new _ _ rfl;have jG:wr.heap.size≤Wd.heap.size:=hS.size;replace hS:=hS.alloc hS.size (.cells #[.int .i64 0, .int .i64 0, .int .u8 0] 98);refine aD 12 (.cells #[.int .i64 0, .int .i64 0, .int .u8 0] 98) ?_;refine hK.out _ _ hS fun _=> ?_;clear hK;simp only [sA,sB,sC];generalize (Wd.alloc (.cells #[.int .i64 0, .int .i64 0, .int .u8 0] 98))=Wz at hS hZ ⊢;generalize Wd.heap.size=n4 at hZ jG ⊢;refine mG 11 (fun K' hK=> ?_);refine cD 44 102 #[.slice pc N.cls.length kc, .int .u8 (b.toNat:Int)] ?_;refine (xI _ _ N.cls b (HS.out _ hS).2.2.2.2.2 (by omega)).mono ?_;rintro e Wb ⟨rfl,hBb⟩;replace hS:=hS.trans (hBb.mono hS.size);replace hZ:=hZ.below hBb hZ.lt;refine ⟨_,rfl,hK.out _ _ hS fun _=> ?_⟩;clear hK hBb;simp only [sA,sB,sC];rw [hidx.out];refine tk 12 45 (.pointer (some ⟨ub,uo+i * 3,none⟩)) hS ?_ rfl yg;refine tk 13 46 (.agg (jo c)) hS ?_ rfl (aH (f:=oV) (l:=dH c) iq (.tmp 45) rfl ub (uo+i * 3) rfl (fun W' h=>(HS.out W' h).2.2.2.2.1) rfl rfl);refine aW (by kernel_rfl) ?_;simp only [List.drop]
       go_wp2_with (first
        | ((with_reducible refine zS (l':=dH c) hZ iq ?_);(intro We hse yX Im)))
       go_meet;exact ⟨n4,rfl,hse,hS.grown yX hS.size (fun k e=>by cases e;exact jG),jG⟩
     obtain ⟨n4,rfl,hce,hY,jG⟩:=hcut;obtain ⟨Z,hz0⟩:∃Z,Z=wc:=⟨_,rfl⟩
     subst hz0;have uM:=af (HO.out.below' hY);have hlo:∀g,(Value.slice po s.out.length ko).ownBlock=some g→g<n4:=fun g hg=>bY (HO.out.lt g hg).2 jG;have hX2:=hX.trans (hY.mono hX.size);have Io:=hX2.size;have ct:Z.cell? ⟨n4,0,none⟩=some (.int .i64 c.tgt):=by rw [hce.cell?];rfl
     have ca:Z.cell? ⟨n4,1,none⟩=some (.int .i64 c.act):=by rw [hce.cell?];rfl
     have cb:Z.cell? ⟨n4,2,none⟩=some (.int .u8 (c.b.toNat:Int)):=by rw [hce.cell?];rfl
     have cy:=hby.out Z hX2;replace hce:=af hce;clear hX hY HO HS;by_cases a0:c.act=0
     ·have hnx:c.next=c.tgt:=by unfold Ce.next;rw [av (by omega)]
      have kN:c.refuses=false:=cB (by omega);have hout:c.out b=[b]:=by unfold Ce.out;rw [aF a0]
      rw [hnx,kN,hout] at hstp uR;clear hnx kN hout;go_upto_region 17 with (at_builtin;(with_reducible refine dJ qE (.tmp 51) (.tmp 56) ?_ ?_ gD ?_ uM.out b _ ?_ _ ?_ ?_ ?_ ?_ (s.out++[b]) ?_ ?_);rfl;rfl;rfl;rfl;rfl;(omega);(omega);(exact Io);rfl;(intro p3 c3 W3 hO3 hB3 hG3));have hlen:(s.out++[b]).length=s.out.length+1:=by simp
      have ng:=((hce.out.alloc (.cells #[.int .u8 (b.toNat:Int)] 5)).grown hG3 (fun e=>by have:=hlo n4 e.symm;omega))
      have J6:W3.cell? ⟨n4,0,none⟩=some (.int .i64 c.tgt):=by rw [ng.cell?];rfl
      replace hlen:=af hlen;clear ct ca cb cy a0 hce ng hG3 uM hlo;go_wp2_with fail
      go_roundw
      case rel=>exact ⟨k+1,⟨c.tgt,false,s.out++[b]⟩,c.tgt,p3,c3,by omega,by go_num,rfl,rfl,by first | rfl | (rw [hlen.out]),uR,af (fun _=>rfl),hstp,af hO3,hX2.trans hB3⟩
      case measure=>simp [intOf]<;>omega
     have a0':(c.act==0)=false:=by simpa using a0
     by_cases a2:c.act=2
     ·have hnx:c.next=c.tgt:=by unfold Ce.next;rw [av (by omega)]
      have kN:c.refuses=false:=cB (by omega);have hout:c.out b=[c.b]:=by unfold Ce.out;rw [av a0,aF a2]
      rw [hnx,kN,hout] at hstp uR;clear hnx kN hout;go_upto_region 17 with (at_builtin;(with_reducible refine dJ qE (.tmp 60) (.tmp 63) ?_ ?_ gD ?_ uM.out c.b _ ?_ _ ?_ ?_ ?_ ?_ (s.out++[c.b]) ?_ ?_);rfl;rfl;rfl;rfl;rfl;(omega);(omega);(exact Io);rfl;(intro p3 c3 W3 hO3 hB3 hG3));have hlen:(s.out++[c.b]).length=s.out.length+1:=by simp
      have ng:=((hce.out.alloc (.cells #[.int .u8 (c.b.toNat:Int)] 5)).grown hG3 (fun e=>by have:=hlo n4 e.symm;omega))
      have J6:W3.cell? ⟨n4,0,none⟩=some (.int .i64 c.tgt):=by rw [ng.cell?];rfl
      replace hlen:=af hlen;clear ct ca cb cy a0 a0' a2 hce ng hG3 uM hlo;go_wp2_with fail
      go_roundw
      case rel=>exact ⟨k+1,⟨c.tgt,false,s.out++[c.b]⟩,c.tgt,p3,c3,by omega,by go_num,rfl,rfl,by first | rfl | (rw [hlen.out]),uR,af (fun _=>rfl),hstp,af hO3,hX2.trans hB3⟩
      case measure=>simp [intOf]<;>omega
     have KW:(c.act==2)=false:=by simpa using a2
     have hout:c.out b=[]:=by unfold Ce.out;rw [av a0,av a2]
     rw [hout,AR] at hstp uR;by_cases a3:c.act=3
     ·have kN:c.refuses=true:=dI a3;rw [kN] at hstp uR;clear kN hout a0 a2;go_wp2_with fail
      go_roundw
      case rel=>exact ⟨k+1,⟨c.next,true,s.out⟩,c.tgt,po,ko,by omega,by go_num,rfl,rfl,rfl,uR,af (fun h=>by cases h),hstp,uM,hX2⟩
      case measure=>simp [intOf]<;>omega
     ·have a3':(c.act==3)=false:=by simpa using a3
      have hnx:c.next=c.tgt:=by unfold Ce.next;rw [av a3]
      have kN:c.refuses=false:=cB a3;rw [hnx,kN] at hstp uR;clear kN hout a0 a2 a3 hnx;go_wp2_with fail
      go_roundw
      case rel=>exact ⟨k+1,⟨c.tgt,false,s.out⟩,c.tgt,po,ko,by omega,by go_num,rfl,rfl,rfl,uR,af (fun _=>rfl),hstp,uM,hX2⟩
      case measure=>simp [intOf]<;>omega
   ·have hke:k=bs.length:=by omega
    have hq:¬(k:Int)<(bs.length:Int):=by omega
    have hfin:Hid (s=N.run ⟨dw r at_,r,[]⟩ bs):=af (by rw [HR.out,De (by omega)]);clear hke;cases hrf:s.ref with
    | true=>
     obtain ⟨_,_,_,_,_,rz⟩:=HC.out _ hX
     have hp0:s.pos=0:=by
      have h:=NZ.kQ N bs ⟨dw r at_,r,[]⟩ (fun h=>by have h2:r=true:=h;show dw r at_=0;rw [h2];rfl);rw [← hfin.out] at h;exact h hrf
     have hsv:Hid (Value.agg #[.int .i64 0, .bool true]= .agg #[.int .i64 s.pos, .bool s.ref]):=af (by rw [hrf,hp0]);clear hrf hp0 HR HA HP
     go_wp2_with (first
      | ((with_reducible refine zS (l':=[oi 0,ob true]) rz fJ ?_);(intro W9 DC sw Js)))
     refine o6 (v:= .tuple #[.agg #[.int .i64 0, .bool true], .slice po s.out.length ko]) (dz (f:=oV) (l:=[oi 0,ob true]) (t:=7) rfl _ fJ (w.heap.size+1+1) 0 rfl DC.at) rfl ?_;have hBx:=hB.out.trans (hX.mono hB.out.size);exact ⟨hBx.grown sw hBx.size (fun k e=>by cases e;omega), .inr ⟨iE.out.2.1,s,hfin,po,ko,by rw [hsv.out],(HO.out.cK sw (fun g hg e=>by injection e with e;have h1:=(HO.out.lt g hg).1;omega)).mono hB.out.size⟩⟩
    | false=>
     obtain rfl:a=s.pos:=HA.out hrf;obtain ⟨_,_,_,_,_,rz⟩:=HC.out _ hX;have hsv:Hid (Value.agg #[.int .i64 s.pos, .bool false]= .agg #[.int .i64 s.pos, .bool s.ref]):=af (by rw [hrf]);clear hrf HR HA HP
     go_wp2_with (first
      | ((with_reducible refine zS (l':=[oi s.pos,ob false]) rz fJ ?_);(intro W9 DC sw Js)))
     refine o6 (v:= .tuple #[.agg #[.int .i64 s.pos, .bool false], .slice po s.out.length ko]) (dz (f:=oV) (l:=[oi s.pos,ob false]) (t:=7) rfl _ fJ (w.heap.size+1+1) 0 rfl DC.at) rfl ?_;have hBx:=hB.out.trans (hX.mono hB.out.size);exact ⟨hBx.grown sw hBx.size (fun k e=>by cases e;omega), .inr ⟨iE.out.2.1,s,hfin,po,ko,by rw [hsv.out],(HO.out.cK sw (fun g hg e=>by injection e with e;have h1:=(HO.out.lt g hg).1;omega)).mono hB.out.size⟩⟩
theorem yu (w:World) (N:NZ) (pc pr pe:Option Addr) (kc kr ke:Nat) (at_:Int) (r:Bool) (hv:dB w (.agg #[.slice pc N.cls.length kc, .slice pr N.rows.length kr, .slice pe N.ends.length ke]) N):
  Calls Tryz.prog 66 #[.agg #[.slice pc N.cls.length kc, .slice pr N.rows.length kr, .slice pe N.ends.length ke], .agg #[.int .i64 at_, .bool r]] w fun e w'=>e= .returned (.bool (N.fin at_ r))∧Below w.heap.size w w':=by
 have HV:=af hv
 have HE:Hid (Rd Value.bool w (.slice pe N.ends.length ke) N.ends):=af (by
  obtain ⟨vc,vr,ve,he,h1,h2,h3⟩:=hv
  obtain ⟨rfl,rfl,rfl⟩: .slice pc N.cls.length kc=vc∧ .slice pr N.rows.length kr=vr∧ .slice pe N.ends.length ke=ve:=by
   have:=congrArg (fun v=>match v with | Value.agg a=>a.toList | _=>[]) he
   simpa using this
  exact h3)
 clear hv;go_enter Tryz.func66,Tryz.ntmps66;go_upto_region 1 with (fail)
 obtain ⟨W,hW,hB,hs,g0,g1⟩:∃W,((w.alloc (.cells #[.slice pc N.cls.length kc, .slice pr N.rows.length kr, .slice pe N.ends.length ke] 61)).alloc (.cells #[.int .i64 at_, .bool r] 162))=W∧Below w.heap.size w W∧w.heap.size+2≤W.heap.size∧W.heap[w.heap.size]?=some (.cells #[.slice pc N.cls.length kc, .slice pr N.rows.length kr, .slice pe N.ends.length ke] 61 (0,0))∧W.heap[w.heap.size+1]?=some (.cells #[.int .i64 at_, .bool r] 162 (0,0)):=by
  refine ⟨_,rfl,ai (ai (aI _ _) (aj _) _) (aj _) _,by simp,?_,?_⟩
  all_goals repeat (first | (refine bG _ _ _ ?_;(simp;done)) | (refine (oI _ _ _ ?_).trans ?_;·(simp<;>omega)))
 rw [hW];clear hW
 have HC:Hid (∀X,Below W.heap.size W X→X.cell? ⟨w.heap.size,0,none⟩=some (.slice pc N.cls.length kc)∧X.cell? ⟨w.heap.size,1,none⟩=some (.slice pr N.rows.length kr)∧X.cell? ⟨w.heap.size,2,none⟩=some (.slice pe N.ends.length ke)∧X.cell? ⟨w.heap.size+1,0,none⟩=some (.int .i64 at_)∧X.cell? ⟨w.heap.size+1,1,none⟩=some (.bool r)):=af fun X hX=>by
  have h0:=(hX.block w.heap.size (by omega)).trans g0;have h1:=(hX.block (w.heap.size+1) (by omega)).trans g1;refine ⟨?_,?_,?_,?_,?_⟩<;>(unfold World.cell?;first | (rw [h0];rfl) | (rw [h1];rfl))
 clear g0 g1 hs;obtain ⟨c0,c1,c2,s0,s1⟩:=HC.out W (aI _ _);go_wp2_with fail;refine (Aw W N pc pr pe kc kr ke at_ r (HV.out.below hB)).mono ?_;rintro e W1 ⟨rfl,hB1⟩;have hBw:=hB.trans (hB1.mono hB.size);have hE1:=(HE.out.below hB).below hB1;clear c0 c1 c2 s0 s1;obtain ⟨c0,c1,c2,s0,s1⟩:=HC.out W1 hB1;cases hok:N.bE at_ with
 | false=>
  have hf:Hid (N.fin at_ r=false):=af (by unfold NZ.fin;rw [hok];rfl);clear hok hE1;go_wp2;go_ret;exact ⟨by first | (rw [hf.out];rfl) | rw [hf.out],hBw⟩
 | true=>
  have hval:N.valid=true:=by unfold NZ.bE at hok;rw [aX] at hok;exact hok.1
  have hat:0≤at_∧at_<(N.rows.length:Int):=by unfold NZ.bE at hok;rw [aX] at hok;exact of_decide_eq_true hok.2
  have hel:N.ends.length=N.rows.length:=((aJ N).1 hval).1.2.2.2;obtain ⟨k,rfl⟩:∃k:Nat,at_=(k:Int):=⟨at_.toNat,by omega⟩
  have hkl:k<N.ends.length:=by omega
  obtain ⟨be,oe,rfl,hA⟩:∃b o,pe=some ⟨b,o,none⟩∧At Value.bool W1 b o N.ends:=by
   rcases hE1 with ⟨_,_,h0⟩ | ⟨b,o,cap,h1,_,ha,_⟩
   ·rw [h0] at hkl;simp at hkl
   ·cases h1;exact ⟨b,o,rfl,ha⟩
  have ce:W1.cell? ⟨be,oe+k,none⟩=some (.bool (N.ends[k]'hkl)):=by rw [hA k hkl,dR hkl];rfl
  have hf:Hid (N.fin (k:Int) r=(!r && (N.ends[k]'hkl))):=af (by
   unfold NZ.fin
   rw [hok,wF]
   show (!r && (N.ends[(k:Int).toNat]?).getD false)=_
   rw [show (k:Int).toNat=k by simp,dR hkl]
   rfl)
  have hq:(k:Int)<(N.ends.length:Int):=by omega
  replace hel:=af hel;generalize N.ends[k]'hkl=ek at *;clear hok hval hat hA;cases r with
  | true=>
   go_wp2;go_ret;exact ⟨by first | (rw [hf.out];rfl) | rw [hf.out],hBw⟩
  | false=>
   go_wp2;go_ret;exact ⟨by first | (rw [hf.out];rfl) | rw [hf.out] | (rw [hf.out];simp),hBw⟩
theorem IZ (w:World) (N:NZ) (pc pr pe pu:Option Addr) (kc kr ke ku:Nat) (bs:List UInt8) (hv:dB w (.agg #[.slice pc N.cls.length kc, .slice pr N.rows.length kr, .slice pe N.ends.length ke]) N) (hu:Rd bg w (.slice pu bs.length ku) bs) (hbs:bs.length≤140737488351232):
  Calls Tryz.prog 38 #[.agg #[.slice pc N.cls.length kc, .slice pr N.rows.length kr, .slice pe N.ends.length ke], .slice pu bs.length ku] w fun e w'=>Below w.heap.size w w'∧
   ((N.acc bs=false∧e= .returned (.tuple #[.slice none 0 0, .bool false]))∨
   (N.acc bs=true∧∃l,Hid (l=(N.run ⟨0,false,[]⟩ bs).out)∧∃po ko,e= .returned (.tuple #[.slice po l.length ko, .bool true])∧Mem.Own bg w' w.heap.size 5 (.slice po l.length ko) l)):=by
 have HV:=af hv;have HU:=af hu;clear hv hu;go_enter Tryz.func38,Tryz.ntmps38;go_upto_region 1 with (fail)
 obtain ⟨W,hW,hB,hs,g0⟩:∃W,(w.alloc (.cells #[.slice pc N.cls.length kc, .slice pr N.rows.length kr, .slice pe N.ends.length ke] 61))=W∧Below w.heap.size w W∧w.heap.size+1≤W.heap.size∧W.heap[w.heap.size]?=some (.cells #[.slice pc N.cls.length kc, .slice pr N.rows.length kr, .slice pe N.ends.length ke] 61 (0,0)):=
  ⟨_,rfl,ai (aI _ _) (aj _) _,by simp,World.alloc_heap_new _ _⟩
 rw [hW];clear hW
 have HC:Hid (∀X,Below W.heap.size W X→X.cell? ⟨w.heap.size,0,none⟩=some (.slice pc N.cls.length kc)∧X.cell? ⟨w.heap.size,1,none⟩=some (.slice pr N.rows.length kr)∧X.cell? ⟨w.heap.size,2,none⟩=some (.slice pe N.ends.length ke)):=af fun X hX=>by
  have h:=(hX.block w.heap.size (by omega)).trans g0;refine ⟨?_,?_,?_⟩<;>(unfold World.cell?;rw [h];rfl)
 clear g0;obtain ⟨c0,c1,c2⟩:=HC.out W (aI _ _);go_wp2_with fail;refine (H9 W N pc pr pe pu kc kr ke ku 0 false bs (HV.out.below hB) (HU.out.below hB) hbs).mono ?_;rintro e W1 ⟨hB1,⟨hno,rfl⟩ | ⟨hok,s,D8,po,ko,rfl,hO⟩⟩
 ·have hacc:N.acc bs=false:=by unfold NZ.acc;rw [hno];rfl
  have HB:=af hB1;have hX1:=hB1.alloc hB1.size (.cells #[.int .i64 0, .bool false] 162);have jE:=af (And.intro hno hacc);clear c0 c1 c2 hno hacc;obtain ⟨c0,c1,c2⟩:=HC.out _ hX1;go_wp2_with fail;refine (yu _ N pc pr pe kc kr ke 0 false (HV.out.below (hB.trans (hX1.mono hB.size)))).mono ?_;rintro e W2 ⟨rfl,hB2⟩;have hf:N.fin 0 false=false:=by unfold NZ.fin;rw [jE.out.1];rfl
  rw [hf];have hBx:=(hB.trans (hX1.mono hB.size)).trans (hB2.mono (hB.trans (hX1.mono hB.size)).size);clear hf;go_wp2;go_ret2;exact ⟨hBx, .inl ⟨jE.out.2,rfl⟩⟩
 ·have rV:s=N.run ⟨0,false,[]⟩ bs:=D8.out;have hX1:=hB1.alloc hB1.size (.cells #[.int .i64 s.pos, .bool s.ref] 162);have hacc:N.acc bs=N.fin s.pos s.ref:=by unfold NZ.acc;rw [hok,← rV];rfl
  have HA:=af (And.intro hacc rV);have HO:=af (hO.alloc (.cells #[.int .i64 s.pos, .bool s.ref] 162));clear c0 c1 c2 hok hacc D8 rV hO;obtain ⟨c0,c1,c2⟩:=HC.out _ hX1;go_wp2_with fail;refine (yu _ N pc pr pe kc kr ke s.pos s.ref (HV.out.below (hB.trans (hX1.mono hB.size)))).mono ?_;rintro e W2 ⟨rfl,hB2⟩;have hBx:=(hB.trans (hX1.mono hB.size)).trans (hB2.mono (hB.trans (hX1.mono hB.size)).size);have uM:=af ((HO.out.below' hB2).mono hB.size);cases hf:N.fin s.pos s.ref with
  | false=>
   have hacc:=HA.out.1.trans hf;have zx:=af hacc;clear hacc hf;go_wp2;go_ret2;exact ⟨hBx, .inl ⟨zx.out,rfl⟩⟩
  | true=>
   have hacc:=HA.out.1.trans hf;have zx:=af hacc;clear hacc hf;go_wp2;go_ret2;exact ⟨hBx, .inr ⟨zx.out,s.out,af (by rw [HA.out.2]),po,ko,rfl,uM.out⟩⟩
end
section
open Go Go.RowKit Mem
def NZ.ans (N:NZ) (bs:List UInt8):List UInt8:=if N.acc bs=true then (N.run ⟨0,false,[]⟩ bs).out else []
section
variable (w:World) (N:NZ) (pc pr pe pu:Option Addr) (kc kr ke ku:Nat) (bs:List UInt8) (hv:dB w (.agg #[.slice pc N.cls.length kc, .slice pr N.rows.length kr, .slice pe N.ends.length ke]) N) (hu:Rd bg w (.slice pu bs.length ku) bs) (hbs:bs.length≤140737488351232)
include hv hu hbs
def xX (w:World) (N:NZ) (bs:List UInt8) (e:Ending) (w':World):Prop:=Below w.heap.size w w'∧∃po ko,e= .returned (.tuple #[.slice po (N.ans bs).length ko, .bool (N.acc bs)])∧Rd bg w' (.slice po (N.ans bs).length ko) (N.ans bs)
theorem H7:Calls Tryz.prog 36 #[.agg #[.slice pc N.cls.length kc, .slice pr N.rows.length kr, .slice pe N.ends.length ke], .slice pu bs.length ku] w (xX w N bs):=by
 refine (Il w N pc pr pe pu kc kr ke ku bs hv hu hbs (fun h=>mI h)).mono ?_;rintro e w' ⟨hb,⟨hno,rfl⟩ | ⟨hok,s,hs,po,ko,rfl,hO⟩⟩
 ·have h:N.ans bs=[]:=by unfold NZ.ans;rw [hno];rfl
  refine ⟨hb,none,0,?_,?_⟩<;>rw [h]
  ·rw [hno];rfl
  ·exact .inl ⟨none,rfl,rfl⟩
 ·have h:N.ans bs=s:=by unfold NZ.ans;rw [aF hok];exact hs.out.symm
  refine ⟨hb,po,ko,?_,?_⟩<;>rw [h]
  ·rw [hok]
  ·exact hO.rd
theorem Gi:Calls Tryz.prog 38 #[.agg #[.slice pc N.cls.length kc, .slice pr N.rows.length kr, .slice pe N.ends.length ke], .slice pu bs.length ku] w (xX w N bs):=by
 refine (IZ w N pc pr pe pu kc kr ke ku bs hv hu hbs).mono ?_;rintro e w' ⟨hb,⟨hno,rfl⟩ | ⟨hok,s,hs,po,ko,rfl,hO⟩⟩
 ·have h:N.ans bs=[]:=by unfold NZ.ans;rw [hno];rfl
  refine ⟨hb,none,0,?_,?_⟩<;>rw [h]
  ·rw [hno];rfl
  ·exact .inl ⟨none,rfl,rfl⟩
 ·have h:N.ans bs=s:=by unfold NZ.ans;rw [aF hok];exact hs.out.symm
  refine ⟨hb,po,ko,?_,?_⟩<;>rw [h]
  ·rw [hok]
  ·exact hO.rd
end
end
section
open Go Go.RowKit Mem
def NZ.fwd (N:NZ) (bs:List UInt8):List UInt8×Int:=if N.valid=true then (if N.acc bs=true then (N.ans bs,0) else ([],3)) else ([],1)
def xM (w:World) (N:NZ) (bs:List UInt8) (e:Ending) (w':World):Prop:=∃po ko,e= .returned (.tuple #[.slice po (N.fwd bs).1.length ko, .int .i64 (N.fwd bs).2])∧Rd bg w' (.slice po (N.fwd bs).1.length ko) (N.fwd bs).1∧Below w.heap.size w w'
section
variable (w:World) (N:NZ) (pc pr pe pu:Option Addr) (kc kr ke ku:Nat) (bs:List UInt8) (hv:dB w (.agg #[.slice pc N.cls.length kc, .slice pr N.rows.length kr, .slice pe N.ends.length ke]) N) (hu:Rd bg w (.slice pu bs.length ku) bs) (hbs:bs.length≤100)
include hv hu hbs
theorem Iq:Calls Tryz.prog 17 #[.agg #[.slice pc N.cls.length kc, .slice pr N.rows.length kr, .slice pe N.ends.length ke], .slice pu bs.length ku] w (xM w N bs):=by
 have HV:=af hv;have HU:=af hu;clear hv hu;have Gb:¬(4096:Int)<(bs.length:Int):=by omega
 go_enter Tryz.func17,Tryz.ntmps17;go_upto_region 1 with (fail);have hr0:(w.alloc (.cells #[.slice pc N.cls.length kc, .slice pr N.rows.length kr, .slice pe N.ends.length ke] 61)).heap[w.heap.size]?=some (.cells #[.slice pc N.cls.length kc, .slice pr N.rows.length kr, .slice pe N.ends.length ke] 61 (0,0)):=World.alloc_heap_new _ _;have hB:=ai (aI w.heap.size w) (aj _) (.cells #[.slice pc N.cls.length kc, .slice pr N.rows.length kr, .slice pe N.ends.length ke] 61);have hlt:w.heap.size<(w.alloc (.cells #[.slice pc N.cls.length kc, .slice pr N.rows.length kr, .slice pe N.ends.length ke] 61)).heap.size:=by simp
 generalize (w.alloc (.cells #[.slice pc N.cls.length kc, .slice pr N.rows.length kr, .slice pe N.ends.length ke] 61))=W at *
 have HC:Hid (∀X,Below W.heap.size W X→X.cell? ⟨w.heap.size,0,none⟩=some (.slice pc N.cls.length kc)∧X.cell? ⟨w.heap.size,1,none⟩=some (.slice pr N.rows.length kr)∧X.cell? ⟨w.heap.size,2,none⟩=some (.slice pe N.ends.length ke)):=af fun X hX=>by
  have h0:=(hX.block w.heap.size hlt).trans hr0;refine ⟨?_,?_,?_⟩<;>(unfold World.cell?;rw [h0];rfl)
 clear hr0;obtain ⟨c0,c1,c2⟩:=HC.out W (aI _ _);go_wp2_with fail;refine (Ak W _ N (HV.out.below hB)).mono ?_;rintro e W1 ⟨rfl,hB1⟩;have hB2:=hB.trans (hB1.mono hB.size);cases hval:N.valid with
 | false=>
  have HF:Hid (N.fwd bs=([],1)):=af (by unfold NZ.fwd;rw [hval];rfl);go_wp2;go_ret2;exact ⟨none,0,by rw [HF.out];rfl,by rw [HF.out];exact .inl ⟨none,rfl,rfl⟩,hB2⟩
 | true=>
  clear c0 c1 c2;obtain ⟨c0,c1,c2⟩:=HC.out W1 hB1;go_wp2_with fail;refine (H7 W1 N pc pr pe pu kc kr ke ku bs (HV.out.below hB2) (HU.out.below hB2) (by omega)).mono ?_;rintro e W2 ⟨hB3,po,ko,rfl,hrd⟩;have hB4:=hB2.trans (hB3.mono hB2.size);cases hacc:N.acc bs with
  | false=>
   have HF:Hid (N.fwd bs=([],3)):=af (by unfold NZ.fwd;rw [hval,hacc];rfl);clear hrd;go_wp2;go_ret2;exact ⟨none,0,by rw [HF.out];rfl,by rw [HF.out];exact .inl ⟨none,rfl,rfl⟩,hB4⟩
  | true=>
   have HF:Hid (N.fwd bs=(N.ans bs,0)):=af (by unfold NZ.fwd;rw [hval,hacc];rfl);generalize N.ans bs=l at *;go_wp2;go_ret2;exact ⟨po,ko,by rw [HF.out];rfl,by rw [HF.out];exact hrd,hB4⟩
theorem Jh:Calls Tryz.prog 18 #[.agg #[.slice pc N.cls.length kc, .slice pr N.rows.length kr, .slice pe N.ends.length ke], .slice pu bs.length ku] w (xM w N bs):=by
 have HV:=af hv;have HU:=af hu;clear hv hu;have Gb:¬(4096:Int)<(bs.length:Int):=by omega
 go_enter Tryz.func18,Tryz.ntmps18;go_upto_region 1 with (fail);have hr0:(w.alloc (.cells #[.slice pc N.cls.length kc, .slice pr N.rows.length kr, .slice pe N.ends.length ke] 61)).heap[w.heap.size]?=some (.cells #[.slice pc N.cls.length kc, .slice pr N.rows.length kr, .slice pe N.ends.length ke] 61 (0,0)):=World.alloc_heap_new _ _;have hB:=ai (aI w.heap.size w) (aj _) (.cells #[.slice pc N.cls.length kc, .slice pr N.rows.length kr, .slice pe N.ends.length ke] 61);have hlt:w.heap.size<(w.alloc (.cells #[.slice pc N.cls.length kc, .slice pr N.rows.length kr, .slice pe N.ends.length ke] 61)).heap.size:=by simp
 generalize (w.alloc (.cells #[.slice pc N.cls.length kc, .slice pr N.rows.length kr, .slice pe N.ends.length ke] 61))=W at *
 have HC:Hid (∀X,Below W.heap.size W X→X.cell? ⟨w.heap.size,0,none⟩=some (.slice pc N.cls.length kc)∧X.cell? ⟨w.heap.size,1,none⟩=some (.slice pr N.rows.length kr)∧X.cell? ⟨w.heap.size,2,none⟩=some (.slice pe N.ends.length ke)):=af fun X hX=>by
  have h0:=(hX.block w.heap.size hlt).trans hr0;refine ⟨?_,?_,?_⟩<;>(unfold World.cell?;rw [h0];rfl)
 clear hr0;obtain ⟨c0,c1,c2⟩:=HC.out W (aI _ _);go_wp2_with fail;refine (Av W _ N (HV.out.below hB)).mono ?_;rintro e W1 ⟨rfl,hB1⟩;have hB2:=hB.trans (hB1.mono hB.size);cases hval:N.valid with
 | false=>
  have HF:Hid (N.fwd bs=([],1)):=af (by unfold NZ.fwd;rw [hval];rfl);go_wp2;go_ret2;exact ⟨none,0,by rw [HF.out];rfl,by rw [HF.out];exact .inl ⟨none,rfl,rfl⟩,hB2⟩
 | true=>
  clear c0 c1 c2;obtain ⟨c0,c1,c2⟩:=HC.out W1 hB1;go_wp2_with fail;refine (Gi W1 N pc pr pe pu kc kr ke ku bs (HV.out.below hB2) (HU.out.below hB2) (by omega)).mono ?_;rintro e W2 ⟨hB3,po,ko,rfl,hrd⟩;have hB4:=hB2.trans (hB3.mono hB2.size);cases hacc:N.acc bs with
  | false=>
   have HF:Hid (N.fwd bs=([],3)):=af (by unfold NZ.fwd;rw [hval,hacc];rfl);clear hrd;go_wp2;go_ret2;exact ⟨none,0,by rw [HF.out];rfl,by rw [HF.out];exact .inl ⟨none,rfl,rfl⟩,hB4⟩
  | true=>
   have HF:Hid (N.fwd bs=(N.ans bs,0)):=af (by unfold NZ.fwd;rw [hval,hacc];rfl);generalize N.ans bs=l at *;go_wp2;go_ret2;exact ⟨po,ko,by rw [HF.out];rfl,by rw [HF.out];exact hrd,hB4⟩
end
end
end Go.Proofs.YtngjelolnfgnbaaGreatDoor
