/- Part of a proof. -/
import Derived.Test.YtncnfncglacheaaGreatDoorFDfM
import Derived.WideKeyPair
import Derived.DeepKeys4
import Derived.Tactics
import Derived.Tactics2
import Derived.Defers
import Derived.Laws.Pointers
import Derived.Test.YtncnfncglacheaaGreatDoorFRangeQ
import Derived.WideMake
set_option linter.all false
set_option maxRecDepth 100000
set_option maxHeartbeats 64000000
namespace Go.Proofs.YtncnfncglacheaaGreatDoor
section
open Go Go.RowKit Mem
def NZ.zR (N:NZ):Prop:=∀b,∃i,i<N.cls.length∧pV N.cls b=(i:Int)
def NZ.cell (N:NZ) (k:Nat) (b:UInt8):Ce:=((N.rows[k]?.getD [])[(pV N.cls b).toNat]?).getD ⟨0,0,0⟩
def Ce.next (c:Ce):Int:=if c.act=3 then 0 else c.tgt
def Ce.refuses (c:Ce):Bool:=decide (c.act=3)
def Ce.out (c:Ce) (b:UInt8):List UInt8:=if c.act=0 then [b] else if c.act=2 then [c.b] else []
theorem adk (w0 w:World) (N:NZ) (xb k:Nat) (pc pr pe po:Option Addr) (kc kr ke ko:Nat) (l:List UInt8) (b:UInt8) (hv:nJ w0 (.agg #[.slice pc N.cls.length kc, .slice pr N.rows.length kr, .slice pe N.ends.length ke]) N) (hB:Below w0.heap.size w0 w) (hxb:w0.heap.size≤xb)
  (hx:Row oV w xb 128 (GY k false (dI pc N.cls.length kc) (dI pr N.rows.length kr) (dI pe N.ends.length ke) (dI po l.length ko))) (ho:Mem.Own aV w (xb+1) 5 (.slice po l.length ko) l) (hk:k<N.rows.length) (jr:N.zR) (hrl:N.rows[k].length=N.cls.length) (hcl:N.cls.length≤256) (hll:l.length≤140737488351232):
  Calls Tryz.prog 48 #[.pointer (some ⟨xb,0,none⟩), .int .u8 (b.toNat:Int)] w fun e w'=>e= .returned (.tuple #[])∧Below w0.heap.size w0 w'∧
   ∃po' ko' l',Hid (l'=l++(N.cell k b).out b)∧Row oV w' xb 128 (GY (N.cell k b).next (N.cell k b).refuses (dI pc N.cls.length kc) (dI pr N.rows.length kr) (dI pe N.ends.length ke) (dI po' l'.length ko'))∧Mem.Own aV w' (xb+1) 5 (.slice po' l'.length ko') l':=by
 obtain ⟨vc,vr,ve,he,h1,h2,h3⟩:=hv
 obtain ⟨rfl,rfl,rfl⟩: .slice pc N.cls.length kc=vc∧ .slice pr N.rows.length kr=vr∧ .slice pe N.ends.length ke=ve:=by
  have:=congrArg (fun v=>match v with | Value.agg a=>a.toList | _=>[]) he;simpa using this
 have HC:=af (h1.below hB);obtain ⟨rb,ro,u,rfl,hu,Xj,hcr,lrb⟩:=h2.elem k hk;obtain ⟨pu,ku,rfl⟩:=Xj.slice;obtain ⟨i,hil,hi⟩:=jr b;obtain ⟨ub,uo,rfl,hce,C8,lub⟩:=Xj.elem i (by omega)
 have hcell:N.cell k b=N.rows[k][i]'(by omega):=by
  unfold NZ.cell;rw [hi,bM hk];show (N.rows[k][(i:Int).toNat]?).getD _=_;rw [show (i:Int).toNat=i by simp,bM (by omega)];rfl
 rw [← hcell] at hce;have hu':=(hB.cell (p:=⟨rb,ro+k,none⟩) lrb).trans hu;have aaf:=hce.below hB lub;have ag0:=bO lrb hB.size;have agl:=bO lub hB.size;clear he h1 h2 h3 hu Xj hce hcell hcr;generalize hc:N.cell k b=c at aaf ⊢;clear hc;have HB:=af hB;have HO:=af ho;have hq:(k:Int)<(N.rows.length:Int):=by omega
 have hq2:(i:Int)<(N.rows[k].length:Int):=by omega
 have HX:=af hx;have HU:=af hu';have HE:=af aaf;have c1:w.cell? ⟨xb,1,none⟩=some (.bool false):=by rw [hx.cell?];rfl
 have lx:=hx.lt;clear hx hu' aaf hB ho;go_enter Tryz.func48,Tryz.ntmps48;go_upto_region 1 with (fail)
 have HS:Hid (∀X,Below w.heap.size w X→X.cell? ⟨xb,3,none⟩=some (.slice (some ⟨rb,ro,none⟩) N.rows.length kr)∧X.cell? ⟨xb,0,none⟩=some (.int .i64 k)∧X.cell? ⟨rb,ro+k,none⟩=some (.slice (some ⟨ub,uo,none⟩) N.rows[k].length ku)∧X.cell? ⟨xb,2,none⟩=some (.slice pc N.cls.length kc)∧At oV X ub (uo+i * 3) (tL c)):=af fun X hX=>by
  have h:=HX.out.below hX lx;exact ⟨by rw [h.cell?];rfl,by rw [h.cell?];rfl,(hX.cell (p:=⟨rb,ro+k,none⟩) ag0).trans HU.out,by rw [h.cell?];rfl,HE.out.below hX agl⟩
 go_cut [4] (fun s4 wx=>∃n4:Nat,s4= .pointer (some ⟨n4,0,none⟩)∧Row oV wx n4 61 (tL c)∧Below w.heap.size w wx∧w.heap.size≤n4)
 case first=>
  clear c1;refine aH (S:=fun X=>Below w.heap.size w X) 22 rfl (by kernel_rfl) (au _ _).drew fun hS=> ?_;refine tk 0 10 (.pointer (some ⟨xb,0,none⟩)) hS ?_;refine tk 1 11 (.pointer (some ⟨xb,0,none⟩)) hS ?_;refine tk 2 12 (.pointer (some ⟨xb,2,none⟩)) hS ?_;refine tk 3 13 (.pointer (some ⟨xb,3,none⟩)) hS ?_;refine tk 4 14 (.slice (some ⟨rb,ro,none⟩) N.rows.length kr) hS ?_ rfl (qi fun W' h=>by obtain ⟨q0,q1,q2,q3,_⟩:=HS.out W' h;go_simp);refine tk 5 15 (.pointer (some ⟨xb,0,none⟩)) hS ?_;refine tk 6 16 (.pointer (some ⟨xb,0,none⟩)) hS ?_;refine tk 7 17 (.pointer (some ⟨xb,0,none⟩)) hS ?_;refine tk 8 18 (.pointer (some ⟨xb,0,none⟩)) hS ?_;refine tk 9 19 (.int .i64 k) hS ?_ rfl (qi fun W' h=>by obtain ⟨q0,q1,q2,q3,_⟩:=HS.out W' h;go_simp);refine tk 10 20 (.pointer (some ⟨rb,ro+k,none⟩)) hS ?_ rfl yg;refine tk 11 21 (.slice (some ⟨ub,uo,none⟩) N.rows[k].length ku) hS ?_ rfl (qi fun W' h=>by obtain ⟨q0,q1,q2,q3,_⟩:=HS.out W' h;go_simp);refine tk 12 22 (.pointer (some ⟨xb,0,none⟩)) hS ?_;refine tk 13 23 (.pointer (some ⟨xb,0,none⟩)) hS ?_;refine tk 14 24 (.pointer (some ⟨xb,2,none⟩)) hS ?_;refine tk 15 25 (.pointer (some ⟨xb,2,none⟩)) hS ?_;refine tk 16 26 (.slice pc N.cls.length kc) hS ?_ rfl (qi fun W' h=>by obtain ⟨q0,q1,q2,q3,_⟩:=HS.out W' h;go_simp);refine tk 17 27 (.int .u8 (b.toNat:Int)) hS ?_;refine lH (rs:=[18,21]) (by kernel_rfl) (by simp) (dx.cons (by omega) rfl (fun K' hK=> ?_) (dx.cons (by omega) rfl (fun K' hK=> ?_) dx.nil))
  ·refine cD 28 89 #[.slice pc N.cls.length kc, .int .u8 (b.toNat:Int)] ?_;refine (QA _ _ N.cls b (HC.out.below hS) (by omega)).mono ?_;rintro e Wb ⟨rfl,hBb⟩;replace hS:=hS.trans (hBb.mono hS.size);refine ⟨_,rfl,hK.out _ _ hS fun _=> ?_⟩;clear hK hBb;simp only [sA,sB,sC];rw [hi];refine tk 19 29 (.pointer (some ⟨ub,uo+i * 3,none⟩)) hS ?_ rfl yg;refine tk 20 30 (.agg (DT c)) hS ?_ rfl (aA (f:=oV) (l:=tL c) eT (.tmp 29) rfl ub (uo+i * 3) rfl (fun W' h=>(HS.out W' h).2.2.2.2) rfl rfl);refine iZ 21 (fun K' hK=> ?_);have hZ:Row oV (Wb.alloc (.cells #[.int .i64 0, .int .i64 0, .int .u8 0] 61)) Wb.heap.size 61 [oi 0,oi 0,⟨.int .u8 0,rfl⟩]:=Row.new _ _ rfl;have MJ:w.heap.size≤Wb.heap.size:=hS.size;replace hS:=hS.alloc hS.size (.cells #[.int .i64 0, .int .i64 0, .int .u8 0] 61);refine aD 4 (.cells #[.int .i64 0, .int .i64 0, .int .u8 0] 61) ?_;refine hK.out _ _ hS fun _=> ?_;clear hK;simp only [sA,sB,sC];generalize (Wb.alloc (.cells #[.int .i64 0, .int .i64 0, .int .u8 0] 61))=Wz at hS hZ ⊢;generalize Wb.heap.size=n4 at hZ MJ ⊢;refine aP (by kernel_rfl) ?_;simp only [List.drop]
   go_wp2_with (first
    | ((with_reducible refine zS (l':=tL c) hZ eT ?_);(intro We hse hGe hze)))
   go_meet;exact ⟨n4,rfl,hse,hS.grown hGe hS.size (fun k e=>by cases e;exact MJ),MJ⟩
  ·generalize w.drew=Wd at hS ⊢;have hZ:Row oV (Wd.alloc (.cells #[.int .i64 0, .int .i64 0, .int .u8 0] 61)) Wd.heap.size 61 [oi 0,oi 0,⟨.int .u8 0,rfl⟩]:=Row.new _ _ rfl;have MJ:w.heap.size≤Wd.heap.size:=hS.size;replace hS:=hS.alloc hS.size (.cells #[.int .i64 0, .int .i64 0, .int .u8 0] 61);refine aD 4 (.cells #[.int .i64 0, .int .i64 0, .int .u8 0] 61) ?_;refine hK.out _ _ hS fun _=> ?_;clear hK;simp only [sA,sB,sC];generalize (Wd.alloc (.cells #[.int .i64 0, .int .i64 0, .int .u8 0] 61))=Wz at hS hZ ⊢;generalize Wd.heap.size=n4 at hZ MJ ⊢;refine iZ 18 (fun K' hK=> ?_);refine cD 28 89 #[.slice pc N.cls.length kc, .int .u8 (b.toNat:Int)] ?_;refine (QA _ _ N.cls b (HC.out.below hS) (by omega)).mono ?_;rintro e Wb ⟨rfl,hBb⟩;replace hS:=hS.trans (hBb.mono hS.size);replace hZ:=hZ.below hBb hZ.lt;refine ⟨_,rfl,hK.out _ _ hS fun _=> ?_⟩;clear hK hBb;simp only [sA,sB,sC];rw [hi];refine tk 19 29 (.pointer (some ⟨ub,uo+i * 3,none⟩)) hS ?_ rfl yg;refine tk 20 30 (.agg (DT c)) hS ?_ rfl (aA (f:=oV) (l:=tL c) eT (.tmp 29) rfl ub (uo+i * 3) rfl (fun W' h=>(HS.out W' h).2.2.2.2) rfl rfl);refine aP (by kernel_rfl) ?_;simp only [List.drop]
   go_wp2_with (first
    | ((with_reducible refine zS (l':=tL c) hZ eT ?_);(intro We hse hGe hze)))
   go_meet;exact ⟨n4,rfl,hse,hS.grown hGe hS.size (fun k e=>by cases e;exact MJ),MJ⟩
 case rest=>
  clear c1;obtain ⟨n4,rfl,hce,hX,MJ⟩:=hcut;have hx:=HX.out.below hX lx;have hO:=HO.out.below' hX;have hBw:=HB.out.trans (hX.mono HB.out.size);clear hX;have c0:wc.cell? ⟨n4,0,none⟩=some (.int .i64 c.tgt):=by rw [hce.cell?];rfl
  have e0:wc.cell? ⟨xb,0,none⟩=some (.int .i64 k):=by rw [hx.cell?];rfl
  have f0:=hx.frozen 0;have hxn:xb<n4:=bO lx MJ;have hx2:Row oV (wc.setCell ⟨xb,0,none⟩ (.int .i64 c.tgt)) xb 128 (GY c.tgt false (dI pc N.cls.length kc) (dI (some ⟨rb,ro,none⟩) N.rows.length kr) (dI pe N.ends.length ke) (dI po l.length ko)):=hx.set 0 (oi c.tgt);have DJ:Row oV (wc.setCell ⟨xb,0,none⟩ (.int .i64 c.tgt)) n4 61 (tL c):=hce.aj (by omega) _ _;have hO2:Mem.Own aV (wc.setCell ⟨xb,0,none⟩ (.int .i64 c.tgt)) (xb+1) 5 (.slice po l.length ko) l:=hO.dK (jb (bf (au _ _) (some xb)) 0 _) (fun g hg e=>by injection e with e;have:=(hO.lt g hg).1;omega);have hB2:Below w0.heap.size w0 (wc.setCell ⟨xb,0,none⟩ (.int .i64 c.tgt)):=aQ hBw 0 hxb _;go_upto_region 3 with (fail);generalize (wc.setCell ⟨xb,0,none⟩ (.int .i64 c.tgt))=W2 at hx2 DJ hO2 hB2 ⊢;clear c0 e0 f0 hx hce hO hBw;have ca:W2.cell? ⟨n4,1,none⟩=some (.int .i64 c.act):=by rw [DJ.cell?];rfl
  have ad2:=DJ.lt;have hlo:∀g,(Value.slice po l.length ko).ownBlock=some g→g<n4:=fun g hg=>bO (HO.out.lt g hg).2 MJ;by_cases a0:c.act=0
  ·have hnx:c.next=c.tgt:=by unfold Ce.next;rw [aF (by omega)]
   have hrf:c.refuses=false:=jI (by omega);have hout:c.out b=[b]:=by unfold Ce.out;rw [aC a0]
   have eb:W2.cell? ⟨n4,2,none⟩=some (.int .u8 (c.b.toNat:Int)):=by rw [DJ.cell?];rfl
   have fb:=DJ.frozen 2;have ZZ:Row oV (W2.setCell ⟨n4,2,none⟩ (.int .u8 (b.toNat:Int))) n4 61 [oi c.tgt,oi c.act,⟨.int .u8 (b.toNat:Int),rfl⟩]:=DJ.set 2 ⟨.int .u8 (b.toNat:Int),rfl⟩;have hx3:=hx2.aj (b':=n4) (by omega) 2 (.int .u8 (b.toNat:Int));have hO3:Mem.Own aV (W2.setCell ⟨n4,2,none⟩ (.int .u8 (b.toNat:Int))) (xb+1) 5 (.slice po l.length ko) l:=hO2.dK (jb (bf (au _ _) (some n4)) 2 _) (fun g hg e=>by injection e with e;have:=hlo g hg;omega);have hB3:=aQ hB2 (b:=n4) 2 (by omega) (.int .u8 (b.toNat:Int));go_upto_region 8 with (fail);generalize (W2.setCell ⟨n4,2,none⟩ (.int .u8 (b.toNat:Int)))=W3 at ZZ hx3 hO3 hB3 ⊢;clear eb fb hx2 hO2 hB2 ca DJ ad2;have eb:W3.cell? ⟨n4,2,none⟩=some (.int .u8 (b.toNat:Int)):=by rw [ZZ.cell?];rfl
   have hln:=ZZ.lt;have e5:W3.cell? ⟨xb,5,none⟩=some (.slice po l.length ko):=by rw [hx3.cell?];rfl
   have HK:=af (And.intro hx3 (And.intro hO3 hB3));refine aH (S:=fun X=>X.cell? ⟨xb,5,none⟩=some (.slice po l.length ko)∧X.cell? ⟨n4,2,none⟩=some (.int .u8 (b.toNat:Int))) 9 rfl (by kernel_rfl) ⟨e5,eb⟩ fun hS=> ?_;refine tk 0 47 (.pointer (some ⟨xb,0,none⟩)) hS ?_;refine tk 1 48 (.pointer (some ⟨xb,0,none⟩)) hS ?_;refine tk 2 49 (.pointer (some ⟨xb,0,none⟩)) hS ?_;refine tk 3 50 (.pointer (some ⟨xb,5,none⟩)) hS ?_;refine tk 4 51 (.slice po l.length ko) hS ?_ rfl (qi fun W' h=>by obtain ⟨q0,q1⟩:=h;go_simp);refine tk 5 52 (.pointer (some ⟨n4,2,none⟩)) hS ?_;refine tk 6 53 (.int .u8 (b.toNat:Int)) hS ?_ rfl (qi fun W' h=>by obtain ⟨q0,q1⟩:=h;go_simp);refine iZ 7 (fun K' hK=> ?_);have lW:xb+1≤W3.drew.heap.size:=HK.out.1.lt
   have jy:(W3.drew.alloc (.cells #[.int .u8 (b.toNat:Int)] 5)).cell? ⟨xb,5,none⟩=some (.slice po l.length ko)∧(W3.drew.alloc (.cells #[.int .u8 (b.toNat:Int)] 5)).cell? ⟨n4,2,none⟩=some (.int .u8 (b.toNat:Int)):=
    ⟨(((au W3.drew.heap.size W3.drew).alloc (ah _) _).cell (p:=⟨xb,5,none⟩) lW).trans hS.1,(((au W3.drew.heap.size W3.drew).alloc (ah _) _).cell (p:=⟨n4,2,none⟩) hln).trans hS.2⟩
   refine uC (d:=54) (v:= .slice (some ⟨W3.drew.heap.size,0,none⟩) 1 1) (w':=W3.drew.alloc (.cells #[.int .u8 (b.toNat:Int)] 5)) rfl rfl (by first | rfl | kernel_rfl) ?_;refine hK.out _ _ jy fun _=> ?_;clear hK;simp only [sA,sB,sC];refine iZ 8 (fun K' hK=> ?_);have hOd:Mem.Own aV W3.drew (xb+1) 5 (.slice po l.length ko) l:=HK.out.2.1;refine jk (w:=W3.drew) (l:=l) (v:= .slice po l.length ko) xV (.tmp 51) (.tmp 54) 22 rfl rfl rfl j4 rfl hOd b (.int .u8 (b.toNat:Int)) rfl 5 rfl (by omega) (by omega) lW (l++[b]) rfl ?_;intro p3 k3 w3 hO3 hG3 _;have hlen:(l++[b]).length=l.length+1:=by simp
   rw [hlen] at hO3;have hG4:W3.grownBy w3 (Value.slice po l.length ko).ownBlock:=(uH (bf (au _ _) _)).andThen ((bf ((au W3.drew.heap.size W3.drew).alloc (ah _) _) (Value.slice po l.length ko).ownBlock).andThen hG3 (fun j e=> .inr e)) (fun j e=> .inr e);have hne:∀g,(Value.slice po l.length ko).ownBlock=some g→xb<g∧g<n4:=fun g hg=>⟨(HK.out.2.1.lt g hg).1,hlo g hg⟩
   have eP:w3.cell? ⟨xb,5,none⟩=some (.slice po l.length ko)∧w3.cell? ⟨n4,2,none⟩=some (.int .u8 (b.toNat:Int)):=
    ⟨(nU (a:=⟨xb,5,none⟩) (hG4.block xb (Nat.lt_of_succ_le lW) (fun e=>by have:=(hne _ e.symm).1;omega))).trans hS.1,(nU (a:=⟨n4,2,none⟩) (hG4.block n4 hln (fun e=>by have:=(hne _ e.symm).2;omega))).trans hS.2⟩
   refine hK.out _ _ eP fun _=> ?_;clear hK hS jy;simp only [Act.put,zZ,Cy,yh];refine aP (by kernel_rfl) ?_;simp only [List.drop];have hx3:=HK.out.1.grown hG4 (fun e=>by have:=(hne _ e.symm).1;omega);have f5:=hx3.frozen 5;have g5:=eP.1;have hB3:Below w0.heap.size w0 w3:=HK.out.2.2.grown hG4 HK.out.2.2.size (fun g e=>by have:=(hne _ e).1;omega);have hx4:Row oV (w3.setCell ⟨xb,5,none⟩ (.slice p3 (l.length+1) k3)) xb 128 (GY c.tgt false (dI pc N.cls.length kc) (dI (some ⟨rb,ro,none⟩) N.rows.length kr) (dI pe N.ends.length ke) (dI p3 (l.length+1) k3)):=hx3.set 5 (dI p3 (l.length+1) k3);have hO4:Mem.Own aV (w3.setCell ⟨xb,5,none⟩ (.slice p3 (l.length+1) k3)) (xb+1) 5 (.slice p3 (l.length+1) k3) (l++[b]):=hO3.dK (jb (bf (au _ _) (some xb)) 5 _) (fun g hg e=>by injection e with e;have:=(hO3.lt g hg).1;omega);have hB4:Below w0.heap.size w0 (w3.setCell ⟨xb,5,none⟩ (.slice p3 (l.length+1) k3)):=aQ hB3 5 hxb _;have HF:=af (And.intro hx4 (And.intro hO4 hB4));clear hx4 hO4 hB4 hx3 hO3 hG3 hG4 hB3 e5 eP;go_wp2;go_end0;exact ⟨rfl,HF.out.2.2,p3,k3,l++[b],af (by rw [hout]),by rw [hlen,hnx,hrf];exact HF.out.1,by rw [hlen];exact HF.out.2.1⟩
  by_cases a2:c.act=2
  ·have hnx:c.next=c.tgt:=by unfold Ce.next;rw [aF (by omega)]
   have hrf:c.refuses=false:=jI (by omega);have hout:c.out b=[c.b]:=by unfold Ce.out;rw [aF a0,aC a2]
   have eb:W2.cell? ⟨n4,2,none⟩=some (.int .u8 (c.b.toNat:Int)):=by rw [DJ.cell?];rfl
   go_upto_region 8 with (fail);clear ca DJ;have hln:=ad2;have e5:W2.cell? ⟨xb,5,none⟩=some (.slice po l.length ko):=by rw [hx2.cell?];rfl
   have HK:=af (And.intro hx2 (And.intro hO2 hB2));refine aH (S:=fun X=>X.cell? ⟨xb,5,none⟩=some (.slice po l.length ko)∧X.cell? ⟨n4,2,none⟩=some (.int .u8 (c.b.toNat:Int))) 9 rfl (by kernel_rfl) ⟨e5,eb⟩ fun hS=> ?_;refine tk 0 47 (.pointer (some ⟨xb,0,none⟩)) hS ?_;refine tk 1 48 (.pointer (some ⟨xb,0,none⟩)) hS ?_;refine tk 2 49 (.pointer (some ⟨xb,0,none⟩)) hS ?_;refine tk 3 50 (.pointer (some ⟨xb,5,none⟩)) hS ?_;refine tk 4 51 (.slice po l.length ko) hS ?_ rfl (qi fun W' h=>by obtain ⟨q0,q1⟩:=h;go_simp);refine tk 5 52 (.pointer (some ⟨n4,2,none⟩)) hS ?_;refine tk 6 53 (.int .u8 (c.b.toNat:Int)) hS ?_ rfl (qi fun W' h=>by obtain ⟨q0,q1⟩:=h;go_simp);refine iZ 7 (fun K' hK=> ?_);have lW:xb+1≤W2.drew.heap.size:=HK.out.1.lt
   have jy:(W2.drew.alloc (.cells #[.int .u8 (c.b.toNat:Int)] 5)).cell? ⟨xb,5,none⟩=some (.slice po l.length ko)∧(W2.drew.alloc (.cells #[.int .u8 (c.b.toNat:Int)] 5)).cell? ⟨n4,2,none⟩=some (.int .u8 (c.b.toNat:Int)):=
    ⟨(((au W2.drew.heap.size W2.drew).alloc (ah _) _).cell (p:=⟨xb,5,none⟩) lW).trans hS.1,(((au W2.drew.heap.size W2.drew).alloc (ah _) _).cell (p:=⟨n4,2,none⟩) hln).trans hS.2⟩
   refine uC (d:=54) (v:= .slice (some ⟨W2.drew.heap.size,0,none⟩) 1 1) (w':=W2.drew.alloc (.cells #[.int .u8 (c.b.toNat:Int)] 5)) rfl rfl (by first | rfl | kernel_rfl) ?_;refine hK.out _ _ jy fun _=> ?_;clear hK;simp only [sA,sB,sC];refine iZ 8 (fun K' hK=> ?_);have hOd:Mem.Own aV W2.drew (xb+1) 5 (.slice po l.length ko) l:=HK.out.2.1;refine jk (w:=W2.drew) (l:=l) (v:= .slice po l.length ko) xV (.tmp 51) (.tmp 54) 22 rfl rfl rfl j4 rfl hOd c.b (.int .u8 (c.b.toNat:Int)) rfl 5 rfl (by omega) (by omega) lW (l++[c.b]) rfl ?_;intro p3 k3 w3 hO3 hG3 _;have hlen:(l++[c.b]).length=l.length+1:=by simp
   rw [hlen] at hO3;have hG4:W2.grownBy w3 (Value.slice po l.length ko).ownBlock:=(uH (bf (au _ _) _)).andThen ((bf ((au W2.drew.heap.size W2.drew).alloc (ah _) _) (Value.slice po l.length ko).ownBlock).andThen hG3 (fun j e=> .inr e)) (fun j e=> .inr e);have hne:∀g,(Value.slice po l.length ko).ownBlock=some g→xb<g∧g<n4:=fun g hg=>⟨(HK.out.2.1.lt g hg).1,hlo g hg⟩
   have eP:w3.cell? ⟨xb,5,none⟩=some (.slice po l.length ko)∧w3.cell? ⟨n4,2,none⟩=some (.int .u8 (c.b.toNat:Int)):=
    ⟨(nU (a:=⟨xb,5,none⟩) (hG4.block xb (Nat.lt_of_succ_le lW) (fun e=>by have:=(hne _ e.symm).1;omega))).trans hS.1,(nU (a:=⟨n4,2,none⟩) (hG4.block n4 hln (fun e=>by have:=(hne _ e.symm).2;omega))).trans hS.2⟩
   refine hK.out _ _ eP fun _=> ?_;clear hK hS jy;simp only [Act.put,zZ,Cy,yh];refine aP (by kernel_rfl) ?_;simp only [List.drop];have hx3:=HK.out.1.grown hG4 (fun e=>by have:=(hne _ e.symm).1;omega);have f5:=hx3.frozen 5;have g5:=eP.1;have hB3:Below w0.heap.size w0 w3:=HK.out.2.2.grown hG4 HK.out.2.2.size (fun g e=>by have:=(hne _ e).1;omega);have hx4:Row oV (w3.setCell ⟨xb,5,none⟩ (.slice p3 (l.length+1) k3)) xb 128 (GY c.tgt false (dI pc N.cls.length kc) (dI (some ⟨rb,ro,none⟩) N.rows.length kr) (dI pe N.ends.length ke) (dI p3 (l.length+1) k3)):=hx3.set 5 (dI p3 (l.length+1) k3);have hO4:Mem.Own aV (w3.setCell ⟨xb,5,none⟩ (.slice p3 (l.length+1) k3)) (xb+1) 5 (.slice p3 (l.length+1) k3) (l++[c.b]):=hO3.dK (jb (bf (au _ _) (some xb)) 5 _) (fun g hg e=>by injection e with e;have:=(hO3.lt g hg).1;omega);have hB4:Below w0.heap.size w0 (w3.setCell ⟨xb,5,none⟩ (.slice p3 (l.length+1) k3)):=aQ hB3 5 hxb _;have HF:=af (And.intro hx4 (And.intro hO4 hB4));clear hx4 hO4 hB4 hx3 hO3 hG3 hG4 hB3 e5 eP;go_wp2;go_end0;exact ⟨rfl,HF.out.2.2,p3,k3,l++[c.b],af (by rw [hout]),by rw [hlen,hnx,hrf];exact HF.out.1,by rw [hlen];exact HF.out.2.1⟩
  by_cases a3:c.act=3
  ·have hnx:c.next=0:=by unfold Ce.next;rw [aC a3]
   have hrf:c.refuses=true:=nE a3;have hout:c.out b=[]:=by unfold Ce.out;rw [aF a0,aF a2]
   have e0:W2.cell? ⟨xb,0,none⟩=some (.int .i64 c.tgt):=by rw [hx2.cell?];rfl
   have e1:W2.cell? ⟨xb,1,none⟩=some (.bool false):=by rw [hx2.cell?];rfl
   have f0:=hx2.frozen 0;have f1:=hx2.frozen 1;have hx4:Row oV ((W2.setCell ⟨xb,0,none⟩ (.int .i64 0)).setCell ⟨xb,1,none⟩ (.bool true)) xb 128 (GY 0 true (dI pc N.cls.length kc) (dI (some ⟨rb,ro,none⟩) N.rows.length kr) (dI pe N.ends.length ke) (dI po l.length ko)):=(hx2.set 0 (oi 0)).set 1 (ob true);have hO4:Mem.Own aV ((W2.setCell ⟨xb,0,none⟩ (.int .i64 0)).setCell ⟨xb,1,none⟩ (.bool true)) (xb+1) 5 (.slice po l.length ko) l:=hO2.dK (jb (jb (bf (au _ _) (some xb)) 0 _) 1 _) (fun g hg e=>by injection e with e;have:=(hO2.lt g hg).1;omega);have hB4:Below w0.heap.size w0 ((W2.setCell ⟨xb,0,none⟩ (.int .i64 0)).setCell ⟨xb,1,none⟩ (.bool true)):=aQ (aQ hB2 0 hxb _) 1 hxb _;have HF:=af (And.intro hx4 (And.intro hO4 hB4));clear hx4 hO4 hB4 hx2 hO2 hB2;go_wp2;go_end0;exact ⟨rfl,HF.out.2.2,po,ko,l,af (by rw [hout,Cm]),by rw [hnx,hrf];exact HF.out.1,HF.out.2.1⟩
  ·have hnx:c.next=c.tgt:=by unfold Ce.next;rw [aF a3]
   have hrf:c.refuses=false:=jI a3;have hout:c.out b=[]:=by unfold Ce.out;rw [aF a0,aF a2]
   go_wp2;go_end0;exact ⟨rfl,hB2,po,ko,l,af (by rw [hout,Cm]),by rw [hnx,hrf];exact hx2,hO2⟩
theorem abq (w:World) (xb:Nat) (a:Int) (vc vr ve vo:OC) (b:Value) (hx:Row oV w xb 128 (GY a true vc vr ve vo)):
  Calls Tryz.prog 48 #[.pointer (some ⟨xb,0,none⟩),b] w fun e w'=>e= .returned (.tuple #[])∧w'=w:=by
 have c1:w.cell? ⟨xb,1,none⟩=some (.bool true):=by rw [hx.cell?];rfl
 clear hx;go_enter Tryz.func48,Tryz.ntmps48;go_wp2;exact fJ (v:= .tuple #[]) (by simp [results,Tryz.results48,go_sem]) rfl ⟨rfl,rfl⟩
theorem VB {α:Type} {f:α→Value} {P:Program} {ops:Array Oper} {o:Oper} {a:Act} {w:World} {K:Act→World→Prop} {Q:Exit→Act→World→Prop} {Z:Prop} {ty t:TypeId} {l l':List α} (T:bU P ty l'.length) (x y:Operand) (hw:Region.wanted o (yielded ops a.tmps)=true) (ho:o.op= .store ty x y) (hd:o.dst=none) (b:Nat) (hx:a.eval x= .pointer (some ⟨b,0,none⟩))
  {C:Array Value} (hC:C=(l'.map f).toArray) (hy:a.eval y= .agg C) (h:Row f w b t l) (hl:l'.length=l.length) (h1:∀x,(f x).oneCell'=true)
  (hk:∀w',Row f w' b t l'→w.grownBy w' (some b)→K a w'):if Region.wanted o (yielded ops a.tmps)=true then Oper.wp P o a w K Q else Z:=by
 subst hC;obtain ⟨w',hr,h2,h3,h4⟩:=ng T h hl h1;rw [aC hw];unfold Oper.wp execOp;simp only [ho,hx,hy,Instr.storeAt,Instr.sureAddr,dR,iB,fT,hr];show K (a.put o.dst undef) w';rw [hd];exact hk w' h2 h3
structure sK where
 pos:Int
 ref:Bool
 out:List UInt8
def NZ.step (N:NZ) (s:sK) (b:UInt8):sK:=if s.ref then s else ⟨(N.cell s.pos.toNat b).next,(N.cell s.pos.toNat b).refuses,s.out++(N.cell s.pos.toNat b).out b⟩
def NZ.run (N:NZ) (s:sK) (bs:List UInt8):sK:=bs.foldl N.step s
theorem XJ (N:NZ) (s:sK) (bs:List UInt8) (k:Nat) (h:k<bs.length):N.run s (bs.take (k+1))=N.step (N.run s (bs.take k)) bs[k]:=by
 unfold NZ.run;rw [AX h,SV];rfl
theorem IB (c:Ce) (b:UInt8):(c.out b).length≤1:=by unfold Ce.out;split<;>(try split)<;>simp
theorem Zc (N:NZ) (s:sK) (b:UInt8):(N.step s b).out.length≤s.out.length+1:=by
 unfold NZ.step;split
 ·omega
 ·have:=IB (N.cell s.pos.toNat b) b;simp;omega
theorem abo (N:NZ) (bs:List UInt8):∀s,(N.run s bs).out.length≤s.out.length+bs.length:=by
 induction bs with
 | nil=>intro s;exact ah _
 | cons b bs ih=>
  intro s;have h1:=ih (N.step s b);have h2:=Zc N s b;show (N.run (N.step s b) bs).out.length≤_;rw [nQ];omega
theorem J8 {N:NZ} (hv:N.valid=true) (k:Nat) (hk:k<N.rows.length):N.rows[k].length=N.cls.length:=(((gK N).1 hv).2.2.2.2 _ (pJ hk)).1
theorem YR {N:NZ} (hv:N.valid=true) (jr:N.zR) (k:Nat) (hk:k<N.rows.length) (b:UInt8):N.cell k b∈N.rows[k]:=by
 obtain ⟨i,hil,hi⟩:=jr b;have hl:=J8 hv k hk;unfold NZ.cell;rw [hi,bM hk];show (N.rows[k][(i:Int).toNat]?).getD _∈_;rw [show (i:Int).toNat=i by simp,bM (by omega)];exact pJ _
theorem aaI {N:NZ} (hv:N.valid=true) (jr:N.zR) (k:Nat) (hk:k<N.rows.length) (b:UInt8):0≤(N.cell k b).next∧(N.cell k b).next<(N.rows.length:Int):=by
 have hb:=(((gK N).1 hv).2.2.2.2 _ (pJ hk)).2;rw [Xw] at hb;have h:=hb _ (YR hv jr k hk b);have h2:¬((N.cell k b).tgt<0∨(N.rows.length:Int)≤(N.cell k b).tgt∨(N.cell k b).act<0∨3<(N.cell k b).act∨(N.cell k b).act≠2∧((N.cell k b).b.toNat:Int)≠0):=fun hh=>h (nE hh);unfold Ce.next;split<;>omega
theorem step_pos {N:NZ} (hv:N.valid=true) (jr:N.zR) (s:sK) (h:0≤s.pos∧s.pos<(N.rows.length:Int)) (b:UInt8):0≤(N.step s b).pos∧(N.step s b).pos<(N.rows.length:Int):=by
 unfold NZ.step;split
 ·exact h
 ·exact aaI hv jr _ (by omega) b
theorem JV:bU Tryz.prog 48 2:=⟨fun _=>by kernel_rfl,fun _=>by kernel_rfl⟩
theorem WK (w:World) (N:NZ) (pc pr pe pu:Option Addr) (kc kr ke ku:Nat) (at_:Int) (r:Bool) (bs:List UInt8) (hv:nJ w (.agg #[.slice pc N.cls.length kc, .slice pr N.rows.length kr, .slice pe N.ends.length ke]) N) (hu:Rd aV w (.slice pu bs.length ku) bs) (hbs:bs.length≤140737488351232) (jr:N.valid=true→N.zR):
  Calls Tryz.prog 13 #[.agg #[.slice pc N.cls.length kc, .slice pr N.rows.length kr, .slice pe N.ends.length ke], .agg #[.int .i64 at_, .bool r], .slice pu bs.length ku] w fun e w'=>Below w.heap.size w w'∧
   ((N.kQ at_=false∧e= .returned (.tuple #[.agg #[.int .i64 0, .bool false], .slice none 0 0]))∨
   (N.kQ at_=true∧∃s,Hid (s=N.run ⟨mO r at_,r,[]⟩ bs)∧∃po ko,e= .returned (.tuple #[.agg #[.int .i64 s.pos, .bool s.ref], .slice po s.out.length ko])∧Mem.Own aV w' w.heap.size 5 (.slice po s.out.length ko) s.out)):=by
 have HV:=af hv;have HU:=af hu;clear hv hu;go_enter Tryz.func13,Tryz.ntmps13;go_upto_region 1 with (fail)
 obtain ⟨W,hW,hB,hs,g0,g1,g2⟩:∃W,(((w.alloc (.cells #[.slice pc N.cls.length kc, .slice pr N.rows.length kr, .slice pe N.ends.length ke] 37)).alloc (.cells #[.int .i64 at_, .bool r] 48)).alloc (.cells #[.int .i64 0, .bool false] 48))=W∧Below w.heap.size w W∧w.heap.size+3≤W.heap.size∧W.heap[w.heap.size]?=some (.cells #[.slice pc N.cls.length kc, .slice pr N.rows.length kr, .slice pe N.ends.length ke] 37 (0,0))∧W.heap[w.heap.size+1]?=some (.cells #[.int .i64 at_, .bool r] 48 (0,0))∧W.heap[w.heap.size+1+1]?=some (.cells #[.int .i64 0, .bool false] 48 (0,0)):=by
  refine ⟨_,rfl,ai (ai (ai (au _ _) (ah _) _) (ah _) _) (ah _) _,by simp,?_,?_,?_⟩
  all_goals repeat (first | (refine dH _ _ _ ?_;(simp;done)) | (refine (pM _ _ _ ?_).trans ?_;·(simp<;>omega)))
 rw [hW];clear hW;have rz:Row oV W (w.heap.size+1+1) 48 [oi 0,ob false]:=g2;have c0:W.cell? ⟨w.heap.size,0,none⟩=some (.slice pc N.cls.length kc):=by unfold World.cell?;rw [g0];rfl
 have c1:W.cell? ⟨w.heap.size,1,none⟩=some (.slice pr N.rows.length kr):=by unfold World.cell?;rw [g0];rfl
 have c2:W.cell? ⟨w.heap.size,2,none⟩=some (.slice pe N.ends.length ke):=by unfold World.cell?;rw [g0];rfl
 have s0:W.cell? ⟨w.heap.size+1,0,none⟩=some (.int .i64 at_):=by unfold World.cell?;rw [g1];rfl
 have s1:W.cell? ⟨w.heap.size+1,1,none⟩=some (.bool r):=by unfold World.cell?;rw [g1];rfl
 clear g0 g1 g2;go_wp2_with fail;refine (abv W N pc pr pe kc kr ke at_ r (HV.out.below hB)).mono ?_;rintro e W1 ⟨hB1,⟨hno,rfl⟩ | ⟨hok,xb,rfl,hxb,hx⟩⟩
 ·have rz1:=rz.below hB1 rz.lt;have hBw:=hB.trans (hB1.mono hB.size);have Jg:=af hno;clear hno c0 c1 c2 s0 s1 rz hB1 hB
  go_wp2_with (first
   | ((with_reducible refine zS (l':=[oi 0,ob false]) rz1 JV ?_);(intro W2 hs2 hG2 hz2)))
  refine fJ (v:= .tuple #[.agg #[.int .i64 0, .bool false], .slice none 0 0]) (bG (f:=oV) (l:=[oi 0,ob false]) (t:=7) rfl _ JV (w.heap.size+1+1) 0 rfl hs2.at) rfl ?_;exact ⟨hBw.grown hG2 hBw.size (fun k e=>by cases e;omega), .inl ⟨Jg.out,rfl⟩⟩
 ·have hval:N.valid=true:=by unfold NZ.kQ at hok;rw [cZ] at hok;exact hok.1
  have hat:0≤at_∧at_<(N.rows.length:Int):=by unfold NZ.kQ at hok;rw [cZ] at hok;exact of_decide_eq_true hok.2
  have jQ:=af (And.intro hok (And.intro hval hat));have hl1:=hx.lt;clear hok hval hat c0 c1 c2 s0 s1;have HZ:=af rz;clear rz;have HW:=af (HV.out.below hB);have HB:=af (And.intro hB hs);have h00:0≤mO r at_∧mO r at_<(N.rows.length:Int):=by have:=jQ.out.2.2;unfold mO;split<;>omega
  have Td:Hid (Rd aV W (.slice pu bs.length ku) bs):=af (HU.out.below hB);go_wp2_with fail
  go_loopw [23] (fun i wr=>∃(k:Nat) (s:sK) (po:Option Addr) (ko:Nat),k≤bs.length∧i= .int .i64 k∧Hid (s=N.run ⟨mO r at_,r,[]⟩ (bs.take k))∧(0≤s.pos∧s.pos<(N.rows.length:Int))∧Row oV wr xb 128 (GY s.pos s.ref (dI pc N.cls.length kc) (dI pr N.rows.length kr) (dI pe N.ends.length ke) (dI po s.out.length ko))∧Mem.Own aV wr (xb+1) 5 (.slice po s.out.length ko) s.out∧Below W.heap.size W wr) (fun i _=>bs.length - (intOf i).toNat)
  case atStart=>exact ⟨0,⟨mO r at_,r,[]⟩,none,0,by omega,rfl,af rfl,h00,hx,Own.nil _ _ _,hB1⟩
  case round=>
   clear hx hB1 hl1 hB hs h00;obtain ⟨k,s,po,ko,hk,rfl,hs,hpos,hx,hO,hX⟩:=hrel;have HP:=af hpos;have tJ:=af (And.intro hx hO);have lx:=hx.lt;clear hpos hx hO;by_cases hlt:k<bs.length
   ·obtain ⟨bu,ou,rfl,hA,lbu⟩:∃b o,pu=some ⟨b,o,none⟩∧At aV W b o bs∧b<W.heap.size:=by
     rcases Td.out with ⟨_,_,h0⟩ | ⟨b,o,cap,h1,_,ha,hl⟩
     ·rw [h0] at hlt;simp at hlt
     ·cases h1;exact ⟨b,o,rfl,ha,hl⟩
    have cb:wr.cell? ⟨bu,ou+k,none⟩=some (.int .u8 (bs[k].toNat:Int)):=((hX.cell (p:=⟨bu,ou+k,none⟩) lbu).trans (hA k hlt)).trans (by rw [bM hlt];rfl);have hq:(k:Int)<(bs.length:Int):=by omega
    clear hA;go_wp2_with fail;have hrun:=XJ N ⟨mO r at_,r,[]⟩ bs k hlt;rw [← hs.out] at hrun;have adS:=af hrun;clear hrun cb;cases hr:s.ref with
    | true=>
     have hx:=tJ.out.1;rw [hr] at hx;refine (abq wr xb s.pos _ _ _ _ _ hx).mono ?_;rintro e w2 ⟨rfl,rfl⟩;have hst:N.step s bs[k]=s:=by unfold NZ.step;rw [aC hr]
     go_wp2_with fail
     go_roundw
     case rel=>exact ⟨k+1,s,po,ko,by omega,by go_num,af (by rw [adS.out,hst]),HP.out,tJ.out.1,tJ.out.2,hX⟩
     case measure=>simp [intOf];omega
    | false=>
     obtain ⟨n,hn⟩:∃n:Nat,s.pos=(n:Int):=⟨s.pos.toNat,by have:=HP.out;omega⟩
     have hnl:n<N.rows.length:=by have:=HP.out;omega
     have hx:=tJ.out.1;rw [hr,hn] at hx;have hcl:N.cls.length≤256:=((gK N).1 jQ.out.2.1).1.1
     have hol:s.out.length≤140737488351232:=by
      rw [hs.out];have:=abo N (bs.take k) ⟨mO r at_,r,[]⟩;rw [LV] at this;have h0:(⟨mO r at_,r,[]⟩:sK).out.length=0:=rfl;omega
     refine (adk W wr N xb n pc pr pe po kc kr ke ko s.out bs[k] HW.out hX hxb hx tJ.out.2 hnl (jr jQ.out.2.1) (J8 jQ.out.2.1 n hnl) hcl hol).mono ?_;rintro e w2 ⟨rfl,hX2,po2,ko2,l2,hl2,hx2,hO2⟩
     have hst:N.step s bs[k]=⟨(N.cell n bs[k]).next,(N.cell n bs[k]).refuses,l2⟩:=by
      unfold NZ.step;rw [aF (by rw [hr];decide),hn,hl2.out];rfl
     have hp2:=step_pos jQ.out.2.1 (jr jQ.out.2.1) s HP.out bs[k];rw [hst] at hp2;have HF:=af (And.intro hx2 (And.intro hO2 (And.intro hX2 hp2)));clear hx2 hO2 hX2 hp2 hx;go_wp2_with fail
     go_roundw
     case rel=>exact ⟨k+1,⟨(N.cell n bs[k]).next,(N.cell n bs[k]).refuses,l2⟩,po2,ko2,by omega,by go_num,af (by rw [adS.out,hst]),HF.out.2.2.2,HF.out.1,HF.out.2.1,HF.out.2.2.1⟩
     case measure=>simp [intOf];omega
   ·have hke:k=bs.length:=by omega
    have hs':Hid (s=N.run ⟨mO r at_,r,[]⟩ bs):=af (by rw [hs.out,qj (by omega)]);have hq:¬(k:Int)<(bs.length:Int):=by omega
    go_upto_region 9 with (fail);have rz1:Row oV wr (w.heap.size+1+1) 48 [oi 0,ob false]:=HZ.out.below hX HZ.out.lt
    have hq0:At oV wr xb 0 [oi s.pos,ob s.ref]∧wr.cell? ⟨xb,5,none⟩=some (.slice po s.out.length ko):=by
     have h:=tJ.out.1;refine ⟨fun i hi=> ?_,by rw [h.cell?];rfl⟩;rcases (by simp at hi;omega:i=0∨i=1) with rfl | rfl<;>(rw [h.cell?];rfl)
    refine wp_region_held_drew (S:=fun X=>At oV X xb 0 [oi s.pos,ob s.ref]∧X.cell? ⟨xb,5,none⟩=some (.slice po s.out.length ko)) rfl hq0 fun hS=> ?_;refine dY 0 31 (.pointer (some ⟨xb,0,none⟩)) hS ?_;refine dY 1 32 (.pointer (some ⟨xb,0,none⟩)) hS ?_;refine dY 2 33 (.pointer (some ⟨xb,0,none⟩)) hS ?_;refine dY 3 34 (.agg #[.int .i64 s.pos, .bool s.ref]) hS ?_ rfl (aA (f:=oV) (l:=[oi s.pos,ob s.ref]) JV (.tmp 33) rfl xb 0 rfl (fun W' h=>h.1) rfl rfl);refine dY 4 35 (.pointer (some ⟨xb,0,none⟩)) hS ?_;refine dY 5 36 (.pointer (some ⟨xb,0,none⟩)) hS ?_;refine dY 6 37 (.pointer (some ⟨xb,5,none⟩)) hS ?_;refine dY 7 38 (.slice po s.out.length ko) hS ?_ rfl (qi fun W' h=>by have q0:=h.2;go_simp);have hBw:Below w.heap.size w wr.drew:=(HB.out.1.trans (hX.mono HB.out.1.size)).drew;have DW:Mem.Own aV wr.drew (xb+1) 5 (.slice po s.out.length ko) s.out:=tJ.out.2;have hne:∀g,(Value.slice po s.out.length ko).ownBlock=some g→some g≠some (w.heap.size+1+1):=fun g hg e=>by injection e with e;have h1:=(DW.lt g hg).1;have h2:=HB.out.2;omega
    have hwl:w.heap.size≤xb+1:=by have h2:=HB.out.2;omega
    have hxw:xb≠w.heap.size+1+1:=by have h2:=HB.out.2;omega
    have rz2:=rz1.drew;have lx2:xb<wr.drew.heap.size:=lx;generalize wr.drew=Y at rz2 hBw DW hS lx2 ⊢;refine wU 8 (fun K' hK=> ?_);refine VB (f:=oV) (l:=[oi 0,ob false]) (l':=[oi s.pos,ob s.ref]) (t:=48) (C:= #[.int .i64 s.pos, .bool s.ref]) JV (.tmp 6) (.tmp 34) rfl rfl rfl (w.heap.size+1+1) rfl rfl rfl rz2 rfl bF ?_;intro W2 hs2 hG2;replace hS:=And.intro (hS.1.grown hG2 lx2 (by intro e;injection e with e;exact hxw e)) ((nU (a:=⟨xb,5,none⟩) (hG2.block xb lx2 (by intro e;injection e with e;exact hxw e))).trans hS.2);refine hK.out _ _ hS fun _=> ?_;clear hK;refine dY 9 7 (.slice po s.out.length ko) hS ?_;refine wpAnyH_done (by kernel_rfl) ?_ _;go_wp2;refine fJ (v:= .tuple #[.agg #[.int .i64 s.pos, .bool s.ref], .slice po s.out.length ko]) (bG (f:=oV) (l:=[oi s.pos,ob s.ref]) (t:=7) rfl _ JV (w.heap.size+1+1) 0 rfl hs2.at) rfl ?_;exact ⟨hBw.grown hG2 hBw.size (fun k e=>by cases e;omega), .inr ⟨jQ.out.1,s,hs',po,ko,rfl,(DW.dK hG2 hne).mono hwl⟩⟩
def NZ.fin (N:NZ) (at_:Int) (r:Bool):Bool:=N.kQ at_ && (!r && (N.ends[at_.toNat]?.getD false))
theorem Jh (w:World) (N:NZ) (pc pr pe:Option Addr) (kc kr ke:Nat) (at_:Int) (r:Bool) (hv:nJ w (.agg #[.slice pc N.cls.length kc, .slice pr N.rows.length kr, .slice pe N.ends.length ke]) N):
  Calls Tryz.prog 18 #[.agg #[.slice pc N.cls.length kc, .slice pr N.rows.length kr, .slice pe N.ends.length ke], .agg #[.int .i64 at_, .bool r]] w fun e w'=>e= .returned (.bool (N.fin at_ r))∧Below w.heap.size w w':=by
 have HV:=af hv
 have HE:Hid (Rd Value.bool w (.slice pe N.ends.length ke) N.ends):=af (by
  obtain ⟨vc,vr,ve,he,h1,h2,h3⟩:=hv
  obtain ⟨rfl,rfl,rfl⟩: .slice pc N.cls.length kc=vc∧ .slice pr N.rows.length kr=vr∧ .slice pe N.ends.length ke=ve:=by
   have:=congrArg (fun v=>match v with | Value.agg a=>a.toList | _=>[]) he
   simpa using this
  exact h3)
 clear hv;go_enter Tryz.func18,Tryz.ntmps18;go_upto_region 1 with (fail)
 obtain ⟨W,hW,hB,hs,g0,g1⟩:∃W,((w.alloc (.cells #[.slice pc N.cls.length kc, .slice pr N.rows.length kr, .slice pe N.ends.length ke] 37)).alloc (.cells #[.int .i64 at_, .bool r] 48))=W∧Below w.heap.size w W∧w.heap.size+2≤W.heap.size∧W.heap[w.heap.size]?=some (.cells #[.slice pc N.cls.length kc, .slice pr N.rows.length kr, .slice pe N.ends.length ke] 37 (0,0))∧W.heap[w.heap.size+1]?=some (.cells #[.int .i64 at_, .bool r] 48 (0,0)):=by
  refine ⟨_,rfl,ai (ai (au _ _) (ah _) _) (ah _) _,by simp,?_,?_⟩
  all_goals repeat (first | (refine dH _ _ _ ?_;(simp;done)) | (refine (pM _ _ _ ?_).trans ?_;·(simp<;>omega)))
 rw [hW];clear hW;have c0:W.cell? ⟨w.heap.size,0,none⟩=some (.slice pc N.cls.length kc):=by unfold World.cell?;rw [g0];rfl
 have c1:W.cell? ⟨w.heap.size,1,none⟩=some (.slice pr N.rows.length kr):=by unfold World.cell?;rw [g0];rfl
 have c2:W.cell? ⟨w.heap.size,2,none⟩=some (.slice pe N.ends.length ke):=by unfold World.cell?;rw [g0];rfl
 have s0:W.cell? ⟨w.heap.size+1,0,none⟩=some (.int .i64 at_):=by unfold World.cell?;rw [g1];rfl
 have s1:W.cell? ⟨w.heap.size+1,1,none⟩=some (.bool r):=by unfold World.cell?;rw [g1];rfl
 clear g0 g1 hs;go_wp2_with fail;refine (abv W N pc pr pe kc kr ke at_ r (HV.out.below hB)).mono ?_;rintro e W1 ⟨hB1,⟨hno,rfl⟩ | ⟨hok,xb,rfl,hxb,hx⟩⟩
 ·have hf:N.fin at_ r=false:=by unfold NZ.fin;rw [hno];rfl
  have hBw:=hB.trans (hB1.mono hB.size);clear hno;go_wp2;go_ret;exact ⟨by first | rfl | (rw [hf];rfl),hBw⟩
 ·have hval:N.valid=true:=by unfold NZ.kQ at hok;rw [cZ] at hok;exact hok.1
  have hat:0≤at_∧at_<(N.rows.length:Int):=by unfold NZ.kQ at hok;rw [cZ] at hok;exact of_decide_eq_true hok.2
  have hel:N.ends.length=N.rows.length:=((gK N).1 hval).1.2.2.2;obtain ⟨k,hk⟩:∃k:Nat,mO r at_=(k:Int):=⟨(mO r at_).toNat,by unfold mO;split<;>omega⟩
  have hkl:k<N.ends.length:=by unfold mO at hk;split at hk<;>omega
  have hf:N.fin at_ r=(!r && N.ends[k]):=by
   unfold NZ.fin;rw [hok,OT];cases r with
   | true=>rfl
   | false=>
    have:at_=(k:Int):=hk;rw [this];show (true && (N.ends[(k:Int).toNat]?).getD false)=_;rw [show (k:Int).toNat=k by simp,bM hkl];rfl
  have HF:=af hf;rw [hk] at hx;have hBw:=hB.trans (hB1.mono hB.size);have hE1:=(HE.out.below hB).below hB1;clear hok hf hval hat hk c0 c1 c2 s0 s1;go_wp2_with fail;refine (Vh W1 xb k r _ _ _ pe ke N.ends hx hE1 hkl).mono ?_;rintro e W2 ⟨rfl,hB2⟩;have hBx:=hBw.trans (hB2.mono hBw.size);go_wp2;go_ret;exact ⟨by rw [HF.out];rfl,hBx⟩
def NZ.acc (N:NZ) (bs:List UInt8):Bool:=N.kQ 0 && N.fin (N.run ⟨0,false,[]⟩ bs).pos (N.run ⟨0,false,[]⟩ bs).ref
theorem afn (w:World) (N:NZ) (pc pr pe pu:Option Addr) (kc kr ke ku:Nat) (bs:List UInt8) (hv:nJ w (.agg #[.slice pc N.cls.length kc, .slice pr N.rows.length kr, .slice pe N.ends.length ke]) N) (hu:Rd aV w (.slice pu bs.length ku) bs) (hbs:bs.length≤140737488351232) (jr:N.valid=true→N.zR):
  Calls Tryz.prog 19 #[.agg #[.slice pc N.cls.length kc, .slice pr N.rows.length kr, .slice pe N.ends.length ke], .slice pu bs.length ku] w fun e w'=>Below w.heap.size w w'∧
   ((N.acc bs=false∧e= .returned (.tuple #[.slice none 0 0, .bool false]))∨
   (N.acc bs=true∧∃l,Hid (l=(N.run ⟨0,false,[]⟩ bs).out)∧∃po ko,e= .returned (.tuple #[.slice po l.length ko, .bool true])∧Mem.Own aV w' w.heap.size 5 (.slice po l.length ko) l)):=by
 have HV:=af hv;have HU:=af hu;clear hv hu;go_enter Tryz.func19,Tryz.ntmps19;go_upto_region 1 with (fail)
 obtain ⟨W,hW,hB,hs,g0⟩:∃W,(w.alloc (.cells #[.slice pc N.cls.length kc, .slice pr N.rows.length kr, .slice pe N.ends.length ke] 37))=W∧Below w.heap.size w W∧w.heap.size+1≤W.heap.size∧W.heap[w.heap.size]?=some (.cells #[.slice pc N.cls.length kc, .slice pr N.rows.length kr, .slice pe N.ends.length ke] 37 (0,0)):=
  ⟨_,rfl,ai (au _ _) (ah _) _,by simp,World.alloc_heap_new _ _⟩
 rw [hW];clear hW
 have HC:Hid (∀X,Below W.heap.size W X→X.cell? ⟨w.heap.size,0,none⟩=some (.slice pc N.cls.length kc)∧X.cell? ⟨w.heap.size,1,none⟩=some (.slice pr N.rows.length kr)∧X.cell? ⟨w.heap.size,2,none⟩=some (.slice pe N.ends.length ke)):=af fun X hX=>by
  have h:=(hX.block w.heap.size (by omega)).trans g0;refine ⟨?_,?_,?_⟩<;>(unfold World.cell?;rw [h];rfl)
 clear g0;obtain ⟨c0,c1,c2⟩:=HC.out W (au _ _);go_wp2_with fail;refine (WK W N pc pr pe pu kc kr ke ku 0 false bs (HV.out.below hB) (HU.out.below hB) hbs jr).mono ?_;rintro e W1 ⟨hB1,⟨hno,rfl⟩ | ⟨hok,s,hsr,po,ko,rfl,hO⟩⟩
 ·have hacc:N.acc bs=false:=by unfold NZ.acc;rw [hno];rfl
  have HB:=af hB1;have hX1:=hB1.alloc hB1.size (.cells #[.int .i64 0, .bool false] 48);have Jg:=af (And.intro hno hacc);clear c0 c1 c2 hno hacc;obtain ⟨c0,c1,c2⟩:=HC.out _ hX1;go_wp2_with fail;refine (Jh _ N pc pr pe kc kr ke 0 false (HV.out.below (hB.trans (hX1.mono hB.size)))).mono ?_;rintro e W2 ⟨rfl,hB2⟩;have hf:N.fin 0 false=false:=by unfold NZ.fin;rw [Jg.out.1];rfl
  rw [hf];have hBx:=(hB.trans (hX1.mono hB.size)).trans (hB2.mono (hB.trans (hX1.mono hB.size)).size);clear hf;go_wp2;go_ret2;exact ⟨hBx, .inl ⟨Jg.out.2,rfl⟩⟩
 ·have aaT:s=N.run ⟨0,false,[]⟩ bs:=hsr.out;have hX1:=hB1.alloc hB1.size (.cells #[.int .i64 s.pos, .bool s.ref] 48);have hacc:N.acc bs=N.fin s.pos s.ref:=by unfold NZ.acc;rw [hok,← aaT];rfl
  have HA:=af (And.intro hacc aaT);have HO:=af (hO.alloc (.cells #[.int .i64 s.pos, .bool s.ref] 48));clear c0 c1 c2 hok hacc hsr aaT hO;obtain ⟨c0,c1,c2⟩:=HC.out _ hX1;go_wp2_with fail;refine (Jh _ N pc pr pe kc kr ke s.pos s.ref (HV.out.below (hB.trans (hX1.mono hB.size)))).mono ?_;rintro e W2 ⟨rfl,hB2⟩;have hBx:=(hB.trans (hX1.mono hB.size)).trans (hB2.mono (hB.trans (hX1.mono hB.size)).size);have HO2:=af ((HO.out.below' hB2).mono hB.size);cases hf:N.fin s.pos s.ref with
  | false=>
   have hacc:=HA.out.1.trans hf;have HAC:=af hacc;clear hacc hf;go_wp2;go_ret2;exact ⟨hBx, .inl ⟨HAC.out,rfl⟩⟩
  | true=>
   have hacc:=HA.out.1.trans hf;have HAC:=af hacc;clear hacc hf;go_wp2;go_ret2;exact ⟨hBx, .inr ⟨HAC.out,s.out,af (by rw [HA.out.2]),po,ko,rfl,HO2.out⟩⟩
theorem agW (w:World) (N:NZ) (pc pr pe pu:Option Addr) (kc kr ke ku:Nat) (bs:List UInt8) (hv:nJ w (.agg #[.slice pc N.cls.length kc, .slice pr N.rows.length kr, .slice pe N.ends.length ke]) N) (hu:Rd aV w (.slice pu bs.length ku) bs) (hbs:bs.length≤140737488351232) (jr:N.zR):
  Calls Tryz.prog 19 #[.agg #[.slice pc N.cls.length kc, .slice pr N.rows.length kr, .slice pe N.ends.length ke], .slice pu bs.length ku] w fun e w'=>Below w.heap.size w w'∧
   ((N.acc bs=false∧e= .returned (.tuple #[.slice none 0 0, .bool false]))∨
   (N.acc bs=true∧∃l,Hid (l=(N.run ⟨0,false,[]⟩ bs).out)∧∃po ko,e= .returned (.tuple #[.slice po l.length ko, .bool true])∧Mem.Own aV w' w.heap.size 5 (.slice po l.length ko) l)):=
 afn w N pc pr pe pu kc kr ke ku bs hv hu hbs fun _=>jr
theorem acI (x:UInt64) (r:Nat):((X x / 2 ^ r) % 2==1)=x.toNat.testBit r:=by
 unfold X;rw [Nat.testBit_eq_decide_div_mod_eq];have h:(x.toNat:Int) / 2 ^ r % 2=((x.toNat / 2 ^ r % 2:Nat):Int):=by simp
 rw [h,AL];simp;omega
theorem abE (w:World) (c:Cl) (b:UInt8):Calls Tryz.prog 77 #[.agg (ax c), .int .u8 (b.toNat:Int)] w fun e w'=>e= .returned (.bool (c.mem b.toNat))∧Below w.heap.size w w':=by
 obtain ⟨q,r,hq,hr,hn⟩:∃q r,q<4∧r<64∧b.toNat=64 * q+r:=⟨b.toNat / 64,b.toNat % 64,by have:=b.toNat_lt;omega,by omega,by omega⟩
 have hh:c.mem b.toNat=(c.w q).toNat.testBit r:=by rw [hn];exact c.zm q r hr
 rw [hh];have hrow:Row oV (w.alloc (.cells (ax c) 65)) w.heap.size 65 (aJ c):=Row.new _ _ rfl;have hB:Below w.heap.size w (w.alloc (.cells (ax c) 65)):=(au _ _).alloc (ah _) _;have hc:(w.alloc (.cells (ax c) 65)).cell? ⟨w.heap.size,q,none⟩=some (.int .u64 (X (c.w q))):=by rw [hrow.cell?,yJ c q hq];rfl
 have d1:((b.toNat:Int)).tdiv 64=(q:Int):=by rw [hn,Yx (by omega)];omega
 have d2:((b.toNat:Int)).tmod 64=(r:Int):=by rw [hn,LG (by omega)];omega
 have d3:(b.toNat:Int) / 64=(q:Int):=by omega
 have d4:(b.toNat:Int) % 64=(r:Int):=by omega
 have x0:=fM (c.w q>>>UInt64.ofNat r);have x1:=uU (c.w q) r hr;have x2:(X (c.w q>>>UInt64.ofNat r)).tmod 2=X (c.w q>>>UInt64.ofNat r) % 2:=LG x0;clear hn hrow hh;go_enter Tryz.func77,Tryz.ntmps77;go_upto_region 1 with (fail);generalize (w.alloc (.cells (ax c) 65))=W at hB hc ⊢;have hq':(q:Int)<4:=by omega
 go_wp2_with fail;go_ret;exact ⟨by rw [← acI,x1];rfl,hB⟩
theorem Fe (w:World) (c:Cl) (b:UInt8):Calls Tryz.prog 76 #[.agg (ax c), .int .u8 (b.toNat:Int)] w fun e w'=>e= .returned (.agg (ax (c.add b.toNat)))∧Below w.heap.size w w':=by
 obtain ⟨q,r,hq,hr,hn⟩:∃q r,q<4∧r<64∧b.toNat=64 * q+r:=⟨b.toNat / 64,b.toNat % 64,by have:=b.toNat_lt;omega,by omega,by omega⟩
 have hh:c.add b.toNat=c.setW q (c.w q ||| ((1:UInt64)<<<UInt64.ofNat r)):=by
  unfold Cl.add;rw [show b.toNat / 64=q by omega,show b.toNat % 64=r by omega]
 rw [hh]
 have hset:(aJ c).set q (ow (X (c.w q ||| ((1:UInt64)<<<UInt64.ofNat r))))=aJ (c.setW q (c.w q ||| ((1:UInt64)<<<UInt64.ofNat r))):=by
  rcases (by omega:q=0∨q=1∨q=2∨q=3) with rfl | rfl | rfl | rfl<;>rfl
 have d1:((b.toNat:Int)).tdiv 64=(q:Int):=by rw [hn,Yx (by omega)];omega
 have d2:((b.toNat:Int)).tmod 64=(r:Int):=by rw [hn,LG (by omega)];omega
 have d3:(b.toNat:Int) / 64=(q:Int):=by omega
 have d4:(b.toNat:Int) % 64=(r:Int):=by omega
 have x1:=Jc r hr;have x2:=I8 (c.w q) ((1:UInt64)<<<UInt64.ofNat r);have hq':(q:Int)<4:=by omega
 clear hn hh;go_enter Tryz.func76,Tryz.ntmps76;go_upto_region 1 with (fail)
 obtain ⟨W,hW,hB,hs,r2,r4⟩:∃W,((w.alloc (.cells (ax c) 65)).alloc (.cells #[.int .u64 0, .int .u64 0, .int .u64 0, .int .u64 0] 65))=W∧Below w.heap.size w W∧w.heap.size+2≤W.heap.size∧Row oV W w.heap.size 65 (aJ c)∧Row oV W (w.heap.size+1) 65 [ow 0,ow 0,ow 0,ow 0]:=by
  refine ⟨_,rfl,ai (ai (au _ _) (ah _) _) (ah _) _,by simp,?_,?_⟩
  all_goals repeat (first | (refine dH _ _ _ ?_;(simp;done)) | (refine (pM _ _ _ ?_).trans ?_;·(simp<;>omega)))
 rw [hW];clear hW;have hc:W.cell? ⟨w.heap.size,q,none⟩=some (.int .u64 (X (c.w q))):=by rw [r2.cell?,yJ c q hq];rfl
 have f2:=r2.frozen q;go_upto_region 3 with (fail);generalize hv:(c.w q ||| ((1:UInt64)<<<UInt64.ofNat r))=v at *;have hB2:=aQ hB (b:=w.heap.size) q (ah _) (.int .u64 (X v))
 have s2:Row oV (W.setCell ⟨w.heap.size,q,none⟩ (.int .u64 (X v))) w.heap.size 65 (aJ (c.setW q v)):=by
  rw [← hset];exact r2.set q (ow (X v))
 have s4:=r4.aj (b':=w.heap.size) (by omega) q (.int .u64 (X v));generalize (W.setCell ⟨w.heap.size,q,none⟩ (.int .u64 (X v)))=W2 at *
 go_wp2_with (first
  | ((with_reducible refine zL s2.at ay rfl (C:=ax (c.setW q v)) ?_))
  | ((with_reducible refine zS (l':=aJ (c.setW q v)) s4 ay ?_);(intro W6 hs6 dw gP)))
 refine fJ (aR (f:=oV) (l:=aJ (c.setW q v)) rfl _ ay (w.heap.size+1) 0 rfl hs6.at) rfl ?_;exact ⟨by rw [hv];rfl,hB2.grown dw hB2.size (fun k e=>by cases e;omega)⟩
def Cl.Pp (a:Cl):Cl:=di (fun i=> !a.mem i) 256
theorem abC (w:World) (a:Cl):Calls Tryz.prog 39 #[.agg (ax a)] w fun e w'=>e= .returned (.agg (ax (a.Pp)))∧Below w.heap.size w w':=by
 go_enter Tryz.func39,Tryz.ntmps39;go_upto_region 1 with (fail)
 obtain ⟨W,hW,hB,hs,r0,r1⟩:∃W,((w.alloc (.cells (ax a) 65)).alloc (.cells #[.int .u64 0, .int .u64 0, .int .u64 0, .int .u64 0] 65))=W∧Below w.heap.size w W∧w.heap.size+2≤W.heap.size∧Row oV W (w.heap.size) 65 (aJ a)∧Row oV W (w.heap.size+1) 65 [ow 0,ow 0,ow 0,ow 0]:=by
  refine ⟨_,rfl,(ai (ai (au _ _) (ah _) _) (ah _) _),by simp,?_,?_⟩
  all_goals repeat (first | (refine dH _ _ _ ?_;(simp;done)) | (refine (pM _ _ _ ?_).trans ?_;·(simp<;>omega)))
 rw [hW];clear hW;have hz:Row oV (W.alloc (.cells #[.int .u64 0, .int .u64 0, .int .u64 0, .int .u64 0] 65)) W.heap.size 65 [ow 0,ow 0,ow 0,ow 0]:=Row.new _ _ rfl;go_upto_region 2 with (((with_reducible refine zS (l':=[ow 0,ow 0,ow 0,ow 0]) hz ay ?_);(intro W1 hs1 hG1 hz1)));have hb1:=j6 (au W.heap.size W) hG1;replace r0:=r0.below hb1 r0.lt;replace r1:=r1.below hb1 r1.lt;replace hB:=hB.trans (hb1.mono hB.size);have hlc:w.heap.size+1<W.heap.size∧w.heap.size≤W.heap.size:=by omega
 generalize hcb:W.heap.size=cb at *;clear hs hz hG1 hz1 hb1 hcb W;have HP:∃p:Nat→Bool,Hid (p=fun i=> !a.mem i):=⟨_,af rfl⟩
 obtain ⟨p,HP⟩:=HP;go_upto_region 3 with (fail)
 go_loopw [4] (fun i wr=>∃(k:Nat),k≤256∧i= .int .i64 k∧Row oV wr cb 65 (aJ (di p k))∧Below cb W1 wr) (fun i _=>256 - (intOf i).toNat)
 case atStart=>exact ⟨0,by omega,rfl,hs1,au _ _⟩
 case round=>
  obtain ⟨k,hk,rfl,hR,hb⟩:=hrel;replace r0:=r0.below hb (by omega);replace r1:=r1.below hb (by omega);replace hB:=hB.trans (hb.mono (by omega));have hcw:=hs1.lt;by_cases hlt:k<256
  ·have hq:(k:Int)<256:=by omega
   have hbk:(UInt8.ofNat k).toNat=k:=by simp;omega
   have hw8:IntKind.u8.wrap (k:Int)=(k:Int):=by rw [G6];omega
   have Yi:=af (qc p k);have hpk:Hid (p k= !a.mem k):=af (by rw [HP.out]);clear hs1;go_wp2_with ((with_reducible refine zL r0.at ay rfl (C:=ax a) ?_));have hc:=abE wr a (UInt8.ofNat k);rw [hbk] at hc;refine hc.mono ?_;clear hc;rintro e w3 ⟨rfl,hb3⟩;replace hb:=hb.trans (hb3.mono (EY hR.lt));replace hR:=hR.below hb3 hR.lt;replace r0:=r0.below hb3 r0.lt;replace r1:=r1.below hb3 r1.lt;clear hb3;cases hm:a.mem k with
   | true=>
    have hpt:Hid (p k=false):=af (by rw [hpk.out,hm];rfl);have hF:di p (k+1)=di p k:=by rw [Yi.out,aF (by rw [hpt.out];decide)]
    replace hF:=af hF;go_wp2_with fail
    go_roundw
    case rel=>exact ⟨k+1,by omega,by go_num,by rw [hF.out];exact hR,hb⟩
    case measure=>simp [intOf];omega
   | false=>
    have hpt:Hid (p k=true):=af (by rw [hpk.out,hm];rfl);go_wp2_with ((with_reducible refine zL hR.at ay rfl (C:=ax (di p k)) ?_));have hc:=Fe w3 (di p k) (UInt8.ofNat k);rw [hbk] at hc;refine hc.mono ?_;clear hc;rintro e w5 ⟨rfl,hb5⟩;replace hb:=hb.trans (hb5.mono (EY hR.lt));replace hR:=hR.below hb5 hR.lt;have hF:(di p k).add k=di p (k+1):=by rw [Yi.out,aC hpt.out]
    rw [hF];clear hF;go_wp2_with (((with_reducible refine zS (l':=aJ (di p (k+1))) hR ay ?_);(intro w6 hs6 dw gP)))
    go_roundw
    case rel=>exact ⟨k+1,by omega,by go_num,hs6,hb.grown dw (EY hR.lt) (fun j e=>by cases e;exact ah _)⟩
    case measure=>simp [intOf];omega
  ·have he:k=256:=by omega
   subst he;have hF:di p 256=a.Pp:=by rw [HP.out];rfl
   rw [hF] at hR;clear hF;generalize hv:a.Pp=v at *
   go_wp2_with (first
    | ((with_reducible refine zL hR.at ay rfl (C:=ax v) ?_))
    | ((with_reducible refine zS (l':=aJ v) r1 ay ?_);(intro W6 hs6 dw gP)))
   refine fJ (aR (f:=oV) (l:=aJ v) rfl _ ay (w.heap.size+1) 0 rfl hs6.at) rfl ?_;exact ⟨by rw [hv];rfl,hB.grown dw hB.size (fun j e=>by cases e;omega)⟩
theorem VY (w:World) (a:Cl) (b:Cl):Calls Tryz.prog 40 #[.agg (ax a), .agg (ax b)] w fun e w'=>e= .returned (.agg (ax (a.union b)))∧Below w.heap.size w w':=by
 go_enter Tryz.func40,Tryz.ntmps40;go_upto_region 1 with (fail)
 obtain ⟨W,hW,hB,hs,r0,r1,r2⟩:∃W,(((w.alloc (.cells (ax a) 65)).alloc (.cells (ax b) 65)).alloc (.cells #[.int .u64 0, .int .u64 0, .int .u64 0, .int .u64 0] 65))=W∧Below w.heap.size w W∧w.heap.size+3≤W.heap.size∧Row oV W (w.heap.size) 65 (aJ a)∧Row oV W (w.heap.size+1) 65 (aJ b)∧Row oV W (w.heap.size+1+1) 65 [ow 0,ow 0,ow 0,ow 0]:=by
  refine ⟨_,rfl,(ai (ai (ai (au _ _) (ah _) _) (ah _) _) (ah _) _),by simp,?_,?_,?_⟩
  all_goals repeat (first | (refine dH _ _ _ ?_;(simp;done)) | (refine (pM _ _ _ ?_).trans ?_;·(simp<;>omega)))
 rw [hW];clear hW;have hz:Row oV (W.alloc (.cells #[.int .u64 0, .int .u64 0, .int .u64 0, .int .u64 0] 65)) W.heap.size 65 [ow 0,ow 0,ow 0,ow 0]:=Row.new _ _ rfl;go_upto_region 2 with (((with_reducible refine zS (l':=[ow 0,ow 0,ow 0,ow 0]) hz ay ?_);(intro W1 hs1 hG1 hz1)));have hb1:=j6 (au W.heap.size W) hG1;replace r0:=r0.below hb1 r0.lt;replace r1:=r1.below hb1 r1.lt;replace r2:=r2.below hb1 r2.lt;replace hB:=hB.trans (hb1.mono hB.size);have hlc:w.heap.size+1+1<W.heap.size∧w.heap.size≤W.heap.size:=by omega
 generalize hcb:W.heap.size=cb at *;clear hs hz hG1 hz1 hb1 hcb W;have HP:∃p:Nat→Bool,Hid (p=fun i=>a.mem i || b.mem i):=⟨_,af rfl⟩
 obtain ⟨p,HP⟩:=HP;go_upto_region 3 with (fail)
 go_loopw [6] (fun i wr=>∃(k:Nat),k≤256∧i= .int .i64 k∧Row oV wr cb 65 (aJ (di p k))∧Below cb W1 wr) (fun i _=>256 - (intOf i).toNat)
 case atStart=>exact ⟨0,by omega,rfl,hs1,au _ _⟩
 case round=>
  obtain ⟨k,hk,rfl,hR,hb⟩:=hrel;replace r0:=r0.below hb (by omega);replace r1:=r1.below hb (by omega);replace r2:=r2.below hb (by omega);replace hB:=hB.trans (hb.mono (by omega));have hcw:=hs1.lt;by_cases hlt:k<256
  ·have hq:(k:Int)<256:=by omega
   have hbk:(UInt8.ofNat k).toNat=k:=by simp;omega
   have hw8:IntKind.u8.wrap (k:Int)=(k:Int):=by rw [G6];omega
   have Yi:=af (qc p k);have hpk:Hid (p k=(a.mem k || b.mem k)):=af (by rw [HP.out]);clear hs1;go_wp2_with ((with_reducible refine zL r0.at ay rfl (C:=ax a) ?_));have hc:=abE wr a (UInt8.ofNat k);rw [hbk] at hc;refine hc.mono ?_;clear hc;rintro e w3 ⟨rfl,hb3⟩;replace hb:=hb.trans (hb3.mono (EY hR.lt));replace hR:=hR.below hb3 hR.lt;replace r0:=r0.below hb3 r0.lt;replace r1:=r1.below hb3 r1.lt;replace r2:=r2.below hb3 r2.lt;clear hb3;cases hm:a.mem k with
   | true=>
    have hpt:Hid (p k=true):=af (by rw [hpk.out,hm];rfl);go_wp2_with ((with_reducible refine zL hR.at ay rfl (C:=ax (di p k)) ?_));have hc:=Fe w3 (di p k) (UInt8.ofNat k);rw [hbk] at hc;refine hc.mono ?_;clear hc;rintro e w5 ⟨rfl,hb5⟩;replace hb:=hb.trans (hb5.mono (EY hR.lt));replace hR:=hR.below hb5 hR.lt;have hF:(di p k).add k=di p (k+1):=by rw [Yi.out,aC hpt.out]
    rw [hF];clear hF;go_wp2_with (((with_reducible refine zS (l':=aJ (di p (k+1))) hR ay ?_);(intro w6 hs6 dw gP)))
    go_roundw
    case rel=>exact ⟨k+1,by omega,by go_num,hs6,hb.grown dw (EY hR.lt) (fun j e=>by cases e;exact ah _)⟩
    case measure=>simp [intOf];omega
   | false=>
    go_wp2_with ((with_reducible refine GI (f:=oV) (l:=aJ b) (C:=ax b) ay (.tmp 3) ?_ ?_ (w.heap.size+1) 0 ?_ r1.at rfl ?_);rfl;rfl;rfl);have hc:=abE w3 b (UInt8.ofNat k);rw [hbk] at hc;refine hc.mono ?_;clear hc;rintro e w4 ⟨rfl,hb4⟩;replace hb:=hb.trans (hb4.mono (EY hR.lt));replace hR:=hR.below hb4 hR.lt;replace r0:=r0.below hb4 r0.lt;replace r1:=r1.below hb4 r1.lt;replace r2:=r2.below hb4 r2.lt;clear hb4;cases hn:b.mem k with
    | true=>
     have hpt:Hid (p k=true):=af (by rw [hpk.out,hm,hn];rfl);go_wp2_with ((with_reducible refine zL hR.at ay rfl (C:=ax (di p k)) ?_));have hc:=Fe w4 (di p k) (UInt8.ofNat k);rw [hbk] at hc;refine hc.mono ?_;clear hc;rintro e w5 ⟨rfl,hb5⟩;replace hb:=hb.trans (hb5.mono (EY hR.lt));replace hR:=hR.below hb5 hR.lt;have hF:(di p k).add k=di p (k+1):=by rw [Yi.out,aC hpt.out]
     rw [hF];clear hF;go_wp2_with (((with_reducible refine zS (l':=aJ (di p (k+1))) hR ay ?_);(intro w6 hs6 dw gP)))
     go_roundw
     case rel=>exact ⟨k+1,by omega,by go_num,hs6,hb.grown dw (EY hR.lt) (fun j e=>by cases e;exact ah _)⟩
     case measure=>simp [intOf];omega
    | false=>
     have hpt:Hid (p k=false):=af (by rw [hpk.out,hm,hn];rfl);have hF:di p (k+1)=di p k:=by rw [Yi.out,aF (by rw [hpt.out];decide)]
     replace hF:=af hF;go_wp2_with fail
     go_roundw
     case rel=>exact ⟨k+1,by omega,by go_num,by rw [hF.out];exact hR,hb⟩
     case measure=>simp [intOf];omega
  ·have he:k=256:=by omega
   subst he;have hF:di p 256=a.union b:=by rw [HP.out];exact QO a b
   rw [hF] at hR;clear hF;generalize hv:a.union b=v at *
   go_wp2_with (first
    | ((with_reducible refine zL hR.at ay rfl (C:=ax v) ?_))
    | ((with_reducible refine zS (l':=aJ v) r2 ay ?_);(intro W6 hs6 dw gP)))
   refine fJ (aR (f:=oV) (l:=aJ v) rfl _ ay (w.heap.size+1+1) 0 rfl hs6.at) rfl ?_;exact ⟨by rw [hv];rfl,hB.grown dw hB.size (fun j e=>by cases e;omega)⟩
theorem aeC (w:World) (v:Value) (l:List UInt8) (hv:Rd aV w v l) (hn:l.length≤4294967296):Calls Tryz.prog 38 #[v] w fun e w'=>e= .returned (.agg (ax (gD l)))∧Below w.heap.size w w':=by
 have HV:=af hv;obtain ⟨p,c,rfl⟩:=hv.slice;clear hv;go_enter Tryz.func38,Tryz.ntmps38;go_upto_region 1 with (fail)
 obtain ⟨W,hW,hB,hs,r0⟩:∃W,(w.alloc (.cells #[.int .u64 0, .int .u64 0, .int .u64 0, .int .u64 0] 65))=W∧Below w.heap.size w W∧w.heap.size+1≤W.heap.size∧Row oV W w.heap.size 65 [ow 0,ow 0,ow 0,ow 0]:=
  ⟨_,rfl,ai (au _ _) (ah _) _,by simp,Row.new _ _ rfl⟩
 rw [hW];clear hW;have hz:Row oV (W.alloc (.cells #[.int .u64 0, .int .u64 0, .int .u64 0, .int .u64 0] 65)) W.heap.size 65 [ow 0,ow 0,ow 0,ow 0]:=Row.new _ _ rfl;go_upto_region 2 with (((with_reducible refine zS (l':=[ow 0,ow 0,ow 0,ow 0]) hz ay ?_);(intro W1 hs1 hG1 hz1)));have hb1:=j6 (au W.heap.size W) hG1;replace r0:=r0.below hb1 r0.lt;replace hB:=hB.trans (hb1.mono hB.size);generalize hcb:W.heap.size=cb at *;have afN:w.heap.size+1≤cb:=hs;clear hs hz hG1 hz1 hb1 hcb W;go_upto_region 3 with (fail)
 go_loopw [4] (fun i wr=>∃(k:Nat),k≤l.length∧i= .int .i64 k∧Row oV wr cb 65 (aJ (gD (l.take k)))∧Below cb W1 wr) (fun i _=>l.length - (intOf i).toNat)
 case atStart=>exact ⟨0,by omega,rfl,hs1,au _ _⟩
 case round=>
  obtain ⟨k,hk,rfl,hR,hb⟩:=hrel;have hcw:=hs1.lt;by_cases hlt:k<l.length
  ·have hq:(k:Int)<(l.length:Int):=by omega
   obtain ⟨b,o,rfl,hcl⟩:∃b o,p=some ⟨b,o,none⟩∧∀X,Below cb W1 X→X.cell? ⟨b,o+k,none⟩=some (.int .u8 (l[k].toNat:Int)):=by
    rcases HV.out with ⟨_,_,h0⟩ | ⟨b,o,cap,he,hc,hat,hbl⟩
    ·rw [h0] at hlt;simp at hlt
    ·cases he;refine ⟨b,o,rfl,fun X hX=> ?_⟩;rw [hX.cell (p:=⟨b,o+k,none⟩) (by show b<cb;omega),hB.cell (p:=⟨b,o+k,none⟩) hbl,hat k hlt,bM hlt];rfl
   replace hcl:=af hcl;go_wp2_with fail;refine aH (S:=fun X=>Below cb W1 X∧Row oV X cb 65 (aJ (gD (l.take k)))) 6 rfl (by kernel_rfl) ⟨hb.drew,hR⟩ fun hS=> ?_;refine tk 0 12 (.agg (ax (gD (l.take k)))) hS ?_ rfl (aA (f:=oV) (l:=aJ (gD (l.take k))) ay (.tmp 3) rfl cb 0 rfl (fun W' h=>h.2.at) rfl rfl);refine tk 1 13 (.slice (some ⟨b,o,none⟩) l.length c) hS ?_;refine tk 2 14 (.int .i64 k) hS ?_;refine tk 3 15 (.pointer (some ⟨b,o+k,none⟩)) hS ?_ rfl yg;refine tk 4 16 (.int .u8 (l[k].toNat:Int)) hS ?_ rfl (qi fun W' h=>by have q0:=hcl.out W' h.1;go_simp);refine iZ 5 (fun K' hK=> ?_);refine cD 17 76 #[.agg (ax (gD (l.take k))), .int .u8 (l[k].toNat:Int)] ?_;refine (Fe _ (gD (l.take k)) l[k]).mono ?_;rintro e Wc ⟨rfl,jR⟩;replace hS:=And.intro (hS.1.trans (jR.mono (EY hS.2.lt))) (hS.2.below jR hS.2.lt);refine ⟨_,rfl,hK.out _ _ hS fun _=> ?_⟩;clear hK jR;simp only [sA,sB,sC];refine aP (by kernel_rfl) ?_;simp only [List.drop];obtain ⟨hb,hR⟩:=hS;have hF:=Eb l k hlt;rw [← hF];replace hF:=af hF;generalize hv:gD (l.take (k+1))=v at *;go_wp2_with (((with_reducible refine zS (l':=aJ v) hR ay ?_);(intro w6 hs6 dw gP)))
   go_roundw
   case rel=>exact ⟨k+1,by omega,by go_num,by rw [hv];exact hs6,hb.grown dw (EY hR.lt) (fun j e=>by cases e;exact ah _)⟩
   case measure=>simp [intOf];omega
  ·have he:k=l.length:=by omega
   subst he;rw [Qr] at hR;have hq:¬(l.length:Int)<(l.length:Int):=by omega
   replace hB:=hB.trans (hb.mono (by omega));replace r0:=r0.below hb (by omega);generalize hv:gD l=v at *
   go_wp2_with (first
    | ((with_reducible refine zL hR.at ay rfl (C:=ax v) ?_))
    | ((with_reducible refine zS (l':=aJ v) r0 ay ?_);(intro W6 hs6 dw gP)))
   refine fJ (aR (f:=oV) (l:=aJ v) rfl _ ay w.heap.size 0 rfl hs6.at) rfl ?_;exact ⟨by first | rfl | (rw [hv];rfl),hB.grown dw hB.size (fun j e=>by cases e;omega)⟩
theorem NZ.rO (N:NZ) (s:sK) (a b:List UInt8):N.run s (a++b)=N.run (N.run s a) b:=by
 unfold NZ.run;rw [SV]
def sK.Inv (s:sK):Prop:=s.ref=true→s.pos=0
theorem NZ.Em (N:NZ) (s:sK) (b:UInt8) (h:s.Inv):(N.step s b).Inv:=by
 unfold NZ.step;split
 ·exact h
 ·intro hr;have h3:(N.cell s.pos.toNat b).act=3:=of_decide_eq_true hr;show (N.cell s.pos.toNat b).next=0;unfold Ce.next;rw [aC h3]
theorem NZ.KW (N:NZ) (bs:List UInt8):∀s:sK,s.Inv→(N.run s bs).Inv:=by
 induction bs with
 | nil=>exact fun s h=>h
 | cons b bs ih=>exact fun s h=>ih _ (N.Em s b h)
theorem NZ.XD (N:NZ) (p:Int) (r:Bool) (o o':List UInt8) (b:UInt8):N.step ⟨p,r,o'++o⟩ b=⟨(N.step ⟨p,r,o⟩ b).pos,(N.step ⟨p,r,o⟩ b).ref,o'++(N.step ⟨p,r,o⟩ b).out⟩:=by
 unfold NZ.step;cases r with
 | true=>rfl
 | false=>simp
theorem NZ.acm (N:NZ) (bs:List UInt8):∀(p:Int) (r:Bool) (o o':List UInt8),N.run ⟨p,r,o'++o⟩ bs=⟨(N.run ⟨p,r,o⟩ bs).pos,(N.run ⟨p,r,o⟩ bs).ref,o'++(N.run ⟨p,r,o⟩ bs).out⟩:=by
 induction bs with
 | nil=>exact fun p r o o'=>rfl
 | cons b bs ih=>
  intro p r o o';show N.run (N.step ⟨p,r,o'++o⟩ b) bs=_;rw [NZ.XD,ih];rfl
theorem NZ.EM (N:NZ) (s:sK) (bs:List UInt8) (h:s.Inv):N.run s bs=⟨(N.run ⟨mO s.ref s.pos,s.ref,[]⟩ bs).pos,(N.run ⟨mO s.ref s.pos,s.ref,[]⟩ bs).ref,s.out++(N.run ⟨mO s.ref s.pos,s.ref,[]⟩ bs).out⟩:=by
 have e:mO s.ref s.pos=s.pos:=by
  unfold mO;split
  ·rename_i hr;exact (h hr).symm
  ·rfl
 rw [e,← NZ.acm,Cm]
theorem NZ.Te {N:NZ} (hv:N.valid=true) (jr:N.zR) (bs:List UInt8):∀s:sK,(0≤s.pos∧s.pos<(N.rows.length:Int))→0≤(N.run s bs).pos∧(N.run s bs).pos<(N.rows.length:Int):=by
 induction bs with
 | nil=>exact fun s h=>h
 | cons b bs ih=>exact fun s h=>ih _ (step_pos hv jr s h b)
theorem NZ.DV {N:NZ} (hv:N.valid=true) {p:Int} (h:0≤p∧p<(N.rows.length:Int)):N.kQ p=true:=by
 unfold NZ.kQ;rw [hv,OT];exact nE h
theorem NZ.E5 {N:NZ} (hv:N.valid=true):(0:Int)≤0∧(0:Int)<(N.rows.length:Int):=⟨Int.le_refl _,by have:=((gK N).1 hv).1.2.1;omega⟩
abbrev st0:sK:=⟨0,false,[]⟩
theorem QG:sK.Inv st0:=fun h=>by cases h
theorem NZ.OD {N:NZ} (hv:N.valid=true) (bs:List UInt8):N.acc bs=N.fin (N.run st0 bs).pos (N.run st0 bs).ref:=by
 unfold NZ.acc;rw [NZ.DV hv (NZ.E5 hv),OT]
theorem Ce.IB (c:Ce) (b:UInt8):(c.out b).length≤1:=by
 unfold Ce.out;split
 ·simp
 ·split<;>simp
theorem NZ.abO (N:NZ) (s:sK) (b:UInt8):(N.step s b).out.length≤s.out.length+1:=by
 unfold NZ.step;split
 ·omega
 ·have:=Ce.IB (N.cell s.pos.toNat b) b;simp only [fq];omega
theorem NZ.IB (N:NZ) (bs:List UInt8):∀s:sK,(N.run s bs).out.length≤s.out.length+bs.length:=by
 induction bs with
 | nil=>exact fun s=>Nat.le_add_right _ _
 | cons b bs ih=>
  intro s;have h1:=ih (N.step s b);have h2:=N.abO s b;show (N.run (N.step s b) bs).out.length≤_;rw [nQ];omega
theorem NZ.three {N:NZ} (hv:N.valid=true) (jr:N.zR) (x y z:List UInt8) (s t u:sK) (hs:s=N.run ⟨0,false,[]⟩ x) (ht:t=N.run ⟨mO s.ref s.pos,s.ref,[]⟩ y) (hu:u=N.run ⟨mO t.ref t.pos,t.ref,[]⟩ z):
  N.kQ 0=true∧N.kQ s.pos=true∧N.kQ t.pos=true∧N.acc (x++(y++z))=N.fin u.pos u.ref∧s.out++(t.out++u.out)=(N.run ⟨0,false,[]⟩ (x++(y++z))).out:=by
 have i1:s.Inv:=by rw [hs];exact N.KW x _ QG
 have p1:0≤s.pos∧s.pos<(N.rows.length:Int):=by rw [hs];exact NZ.Te hv jr x _ (NZ.E5 hv)
 have e2:=N.EM s y i1;rw [← ht] at e2;have i2:(N.run s y).Inv:=N.KW y _ i1;have p2:0≤t.pos∧t.pos<(N.rows.length:Int):=by have:=NZ.Te hv jr y _ p1;rw [e2] at this;exact this
 have e3:=N.EM (N.run s y) z i2;rw [e2] at e3;simp only at e3;rw [← hu] at e3;have e4:N.run ⟨0,false,[]⟩ (x++(y++z))=⟨u.pos,u.ref,s.out++t.out++u.out⟩:=by rw [NZ.rO,← hs,NZ.rO,e2,e3]
 refine ⟨NZ.DV hv (NZ.E5 hv),NZ.DV hv p1,NZ.DV hv p2,?_,?_⟩
 ·rw [NZ.OD hv];show N.fin (N.run ⟨0,false,[]⟩ _).pos (N.run ⟨0,false,[]⟩ _).ref=_;rw [e4]
 ·rw [e4,ze]
theorem NZ.begins {N:NZ} (hv:N.valid=true) (jr:N.zR) (x y:List UInt8):(N.run ⟨0,false,[]⟩ x).out<+:(N.run ⟨0,false,[]⟩ (x++y)).out:=by
 have _:=jr;have _:=hv;rw [NZ.rO,N.EM _ y (N.KW x _ QG)];exact List.prefix_append _ _
def aM:Cl:=⟨0,8589934592,0,0⟩
def aN:Cl:=⟨0,17179869184,0,0⟩
def aX:Cl:=⟨18446744073709551615,18446744047939747839,18446744073709551615,18446744073709551615⟩
def Fp:Cl:=⟨18446744073709551615,18446744073709551615,18446744073709551615,18446744073709551615⟩
def JY (r:Nat):Int:=if r=3 then 1 else if r=4 then 2 else if r=5 then 2 else if r=6 then 3 else if r=7 then 3 else 0
def mkB (r:Nat):UInt8:=if r=4 then 97 else if r=5 then 98 else 0
def jH (k states:Nat):Ce:=⟨((k / 8 % states:Nat):Int),JY (k % 8),mkB (k % 8)⟩
def bD (l:List UInt8):Nat:=if 0<l.length then 1+(l[0]?.getD 0).toNat % 4 else 1
def R8 (l:List UInt8) (s k:Nat):Nat:=if 1+4 * s+k<l.length then (l[1+4 * s+k]?.getD 0).toNat else 0
def jl (l:List UInt8) (s n:Nat):List Ce:=(List.range n).map fun k=>jH (R8 l s k) (bD l)
def AJ (l:List UInt8) (s:Nat):Bool:=if 4+4 * s<l.length then decide ((l[4+4 * s]?.getD 0).toNat % 4≠0) else true
def o5 (l:List UInt8) (n:Nat):List (List Ce):=(List.range n).map fun s=>jl l s 3
def jV (l:List UInt8) (n:Nat):List Bool:=(List.range n).map (AJ l)
def made (l:List UInt8):NZ:=⟨[aX,aM,aN],o5 l (bD l),jV l (bD l)⟩
def fO:NZ:=⟨[Fp],[[⟨0,0,0⟩]],[true]⟩
def fZ:NZ:=⟨[Fp],[[⟨0,3,0⟩]],[false]⟩
theorem xG (l:List UInt8):1≤bD l∧bD l≤4:=by unfold bD;split<;>omega
theorem Yf:∀r,r<8→0≤JY r∧JY r≤3∧(JY r≠2→mkB r=0):=by decide
theorem RZ (l:List UInt8) (s n:Nat):jl l s (n+1)=jl l s n++[jH (R8 l s n) (bD l)]:=by unfold jl;rw [K7,xm];rfl
theorem CV (l:List UInt8) (n:Nat):jV l (n+1)=jV l n++[AJ l n]:=by unfold jV;rw [K7,xm];rfl
theorem dZ (l:List UInt8) (s n:Nat):(jl l s n).length=n:=by simp [jl]
theorem jo (l:List UInt8) (n:Nat):(o5 l n).length=n:=by simp [o5]
theorem dW (l:List UInt8) (n:Nat):(jV l n).length=n:=by simp [jV]
theorem Oq (k n:Nat) (hn:1≤n):(jH k n).bad n=false:=by
 have h:=Yf (k % 8) (U9 _ (by omega));have h2:k / 8 % n<n:=U9 _ (by omega);unfold Ce.bad jH;rw [Uw];simp only;rintro (h3 | h3 | h3 | h3 | ⟨h3,h4⟩)
 ·omega
 ·omega
 ·omega
 ·omega
 ·exact h4 (by rw [h.2.2 h3];rfl)
theorem R3 (l:List UInt8):(made l).valid=true:=by
 have hs:=xG l;rw [gK];have k1:l6 [aX,aM,aN]=256:=by decide+kernel
 have k2:(mR [aX,aM,aN]).size=256:=by decide+kernel
 refine ⟨⟨show ([aX,aM,aN]:List Cl).length≤256 by decide,?_,?_,?_⟩,?_,k1,k2,?_⟩
 ·show 1≤(o5 l (bD l)).length;rw [jo];omega
 ·show (o5 l (bD l)).length≤64;rw [jo];omega
 ·show (jV l (bD l)).length=(o5 l (bD l)).length;rw [jo,dW]
 ·show ∀c∈[aX,aM,aN],c.size≠0;decide+kernel
 ·intro r hr;obtain ⟨s,_,rfl⟩:=wS.1 (show r∈(List.range (bD l)).map fun s=>jl l s 3 from hr);refine ⟨dZ _ _ _,?_⟩;rw [Xw];intro c hc;obtain ⟨k,_,rfl⟩:=wS.1 (show c∈(List.range 3).map fun k=>jH (R8 l s k) (bD l) from hc);show ¬(jH (R8 l s k) (bD l)).bad (o5 l (bD l)).length=true;rw [jo,Oq _ _ hs.1];decide
theorem ac7 {N:NZ} (h2:∀i:Fin 256,pV N.cls (UInt8.ofNat i.1)=((pV N.cls (UInt8.ofNat i.1)).toNat:Int)∧(pV N.cls (UInt8.ofNat i.1)).toNat<N.cls.length):N.zR:=by
 intro b;have h:=h2 ⟨b.toNat,b.toNat_lt⟩;have e:UInt8.ofNat b.toNat=b:=by simp
 simp only [e] at h;exact ⟨_,h.2,h.1⟩
theorem YJ (l:List UInt8):(made l).zR:=ac7 (show ∀i:Fin 256,pV [aX,aM,aN] (UInt8.ofNat i.1)=((pV [aX,aM,aN] (UInt8.ofNat i.1)).toNat:Int)∧(pV [aX,aM,aN] (UInt8.ofNat i.1)).toNat<[aX,aM,aN].length by decide+kernel)
theorem FY:fO.valid=true:=by decide+kernel
theorem z8:fZ.valid=true:=by decide+kernel
theorem Kr (b:UInt8):pV [Fp] b=0:=by
 have h2:∀i:Fin 256,pV [Fp] (UInt8.ofNat i.1)=0:=by decide+kernel
 have h:=h2 ⟨b.toNat,b.toNat_lt⟩;have e:UInt8.ofNat b.toNat=b:=by simp
 simpa only [e] using h
theorem Yn:fO.zR:=fun b=>⟨0,by decide,Kr b⟩
theorem RX:fZ.zR:=fun b=>⟨0,by decide,Kr b⟩
theorem UR (b:UInt8):fO.cell 0 b=⟨0,0,0⟩:=by
 unfold NZ.cell;rw [show pV fO.cls b=0 from Kr b];rfl
theorem Nk (bs:List UInt8):∀o,fO.run ⟨0,false,o⟩ bs=⟨0,false,o++bs⟩:=by
 induction bs with
 | nil=>intro o;rw [Cm];rfl
 | cons b bs ih=>
  intro o;show fO.run (fO.step ⟨0,false,o⟩ b) bs=_
  have:fO.step ⟨0,false,o⟩ b=⟨0,false,o++[b]⟩:=by
   unfold NZ.step;rw [aF (show ¬(false=true) by decide)];show (⟨(fO.cell 0 b).next,(fO.cell 0 b).refuses,o++(fO.cell 0 b).out b⟩:sK)=_;rw [UR];rfl
  rw [this,ih,ze];rfl
theorem Xa (bs:List UInt8):fO.acc bs=true:=by
 rw [NZ.OD FY,Nk];show fO.fin 0 false=true;decide+kernel
theorem Gy (bs:List UInt8):fZ.acc bs=false:=by
 rw [NZ.OD z8];unfold NZ.fin
 have h:∀k:Nat,fZ.ends[k]?.getD false=false:=by
  intro k
  match k with
  | 0=>rfl
  | (k+1)=>rfl
 rw [h,qdC,qdC]
theorem kP:Maps.Keyed Tryz.prog 206:=Maps.Keyed.of_law (deep_law (m:=2) (by omega) (by kernel_rfl) (by kernel_rfl) (by kernel_rfl))
theorem kS:Maps.Keyed Tryz.prog 286:=Maps.Keyed.of_law (deep_law (m:=3) (by omega) (by kernel_rfl) (by kernel_rfl) (by kernel_rfl))
theorem Ml {n:Nat} (h:n<65536):(Lit.int .i64 (n:Int)).wf=true:=WalkArith.wf_i64 (by omega)
theorem wfX (x:UInt64):(Lit.int .u64 (X x)).wf=true:=by
 have h1:=fM x;have h2:=aeh x;simp only [Lit.wf,IntKind.min,IntKind.max,IntKind.signed,IntKind.bits,cZ,tT,wT,ME,qV];omega
theorem acP {α:Type} [DecidableEq α] (B:BEq α) (hB: @LawfulBEq α B):(instBEqOfDecidableEq:BEq α)=B:=by
 have h:∀a b,@BEq.beq α B a b=decide (a=b):=fun a b=>by
  rw [AL,tT];exact @EE α B hB a b
 obtain ⟨f⟩:=B;have e:(fun a b=>decide (a=b))=f:=by funext a b;exact (h a b).symm
 show BEq.mk (fun a b=>decide (a=b))=_;rw [e]
theorem Kt {α:Type} [DecidableEq α] [B:BEq α] [LawfulBEq α] (l:List α) (a:α): @List.idxOf α instBEqOfDecidableEq a l= @List.idxOf α B a l:=by rw [acP B inferInstance]
def TY (x:Nat×Nat):Prop:=x.1<65536∧x.2<65536
def NJ (x:Nat×Nat):List Lit:=[.int .i64 (x.1:Int), .int .i64 (x.2:Int)]
def FW (x:Nat×Nat):Lit:= .string (keyBytes (NJ x))
theorem Y3 (x:Nat×Nat):WideAt.IsKeyLit (FW x):=trivial
theorem YO (a b:Nat×Nat) (ha:TY a) (hb:TY b) (h:FW a=FW b):a=b:=by
 injection h with h
 have:=keyBytes_inj (l:=NJ a) (l':=NJ b) ⟨rfl,rfl,trivial⟩ (by simp only [NJ,nA,Bp,BJ];rintro x (rfl | rfl);exact Ml ha.1;exact Ml ha.2) (by simp only [NJ,nA,Bp,BJ];rintro x (rfl | rfl);exact Ml hb.1;exact Ml hb.2) h;simp only [NJ,Hg,Lit.int.injEq,true_and,G5] at this;exact Prod.ext (by omega) (by omega)
def agA (x:Nat×Nat):Value:= .agg #[.int .i64 (x.1:Int), .int .i64 (x.2:Int)]
theorem acX (x:Nat×Nat) (h:TY x):keyOf Tryz.prog 206 (agA x)=some (FW x):=
 WideMaps.keyOf_pair (e:=3) (q:= .i64) ⟨Tryz.underlying206,by kernel_rfl,by kernel_rfl,by kernel_rfl⟩ Tryz.underlying3 ⟨Tryz.prog.types.size - 1,by kernel_rfl⟩ (Ml h.1) (Ml h.2)
def qN (x:Sx):Prop:=x.1<65536∧x.2.1<65536
def Np (x:Sx):List Lit:=[.int .i64 (x.1:Int), .int .i64 (x.2.1:Int), .int .u64 (X x.2.2)]
def encS (x:Sx):Lit:= .string (keyBytes (Np x))
theorem NT (x:Sx):WideAt.IsKeyLit (encS x):=trivial
theorem Sj {x:Sx} (h:qN x):∀l∈Np x,l.keyWf:=by
 simp only [Np,nA,Bp,BJ];rintro l (rfl | rfl | rfl)
 ·exact Ml h.1
 ·exact Ml h.2
 ·exact wfX _
theorem MW (a b:Sx) (ha:qN a) (hb:qN b) (h:encS a=encS b):a=b:=by
 injection h with h
 have:=keyBytes_inj (l:=Np a) (l':=Np b) ⟨rfl,rfl,rfl,trivial⟩ (Sj ha) (Sj hb) h;simp only [Np,Hg,Lit.int.injEq,true_and,G5] at this;exact Prod.ext (by omega) (Prod.ext (by omega) (rZ this.2.2))
def jG (x:Sx):List OC:=[oi (x.1:Int),oi (x.2.1:Int),ow (X x.2.2)]
def dz (x:Sx):Array Value:= #[.int .i64 (x.1:Int), .int .i64 (x.2.1:Int), .int .u64 (X x.2.2)]
theorem Df (x:Sx):(jG x).length=3:=rfl
theorem kT (x:Sx):dz x=((jG x).map oV).toArray:=rfl
theorem Pb {P:Program} {k e t u:TypeId} {fs:Array Field} (hk:P.keyType k=true) (u1:P.underlying k=some (.struct fs)) (hfs:fs.toList.map (fun f=>(f.name != "_",f.type,f.offset))=[(true,e,0),(true,e,1),(true,t,2)]) (u2:P.underlying e=some (.int .i64)) (u3:P.underlying t=some (.array 1 u)) (u4:P.underlying u=some (.int .u64))
  (c1:P.cellsOf k=3) (c2:P.cellsOf e=1) (c3:P.cellsOf t=1) (c4:P.cellsOf u=1) (hsz:∃m,P.types.size=m+2) {a b c:Int} (w1:(Lit.int .i64 a).wf=true) (w2:(Lit.int .i64 b).wf=true) (w3:(Lit.int .u64 c).wf=true):
  keyOf P k (.agg #[.int .i64 a, .int .i64 b, .int .u64 c])=some (.string (keyBytes [.int .i64 a, .int .i64 b, .int .u64 c])):=by
 obtain ⟨m,hm⟩:=hsz;obtain ⟨l⟩:=fs;simp only at hfs
 match l,hfs with
 | [],hfs=>cases hfs
 | [_],hfs=>simp at hfs
 | [_,_],hfs=>simp at hfs
 | _::_::_::_::_,hfs=>simp at hfs
 | [f1,f2,f3],hfs=>
  simp only [EF,Qk,Hg,bJ,G5] at hfs;obtain ⟨⟨n1,t1,o1⟩,⟨n2,t2,o2⟩,n3,t3,o3⟩:=hfs;unfold keyOf;simp only [u1];rw [aC (by simp [hk,Value.formed,u1,c1]),hm];unfold Program.keyLits;simp only [u1,Value.cells];rw [aC ⟨by rw [c1];rfl,by simp [n1,n2,n3]⟩];simp [t1,t2,t3,o1,o2,o3,c2,c3,Program.keyLits,u2,u3,u4,w1,w2,w3,c4,K7]
theorem Wn (x:Sx) (h:qN x):keyOf Tryz.prog 286 (.agg (dz x))=some (encS x):=
 Pb (e:=3) (t:=284) (u:=63) (by kernel_rfl) Tryz.underlying286 (by kernel_rfl) Tryz.underlying3 Tryz.underlying284 Tryz.underlying63
  (by kernel_rfl) (by kernel_rfl) (by kernel_rfl) (by kernel_rfl) ⟨Tryz.prog.types.size - 2,by kernel_rfl⟩ (Ml h.1) (Ml h.2) (wfX _)
end
section
open Go.RowKit Mem
def Oy (w:World) (nm:ByteArray) (m:List UInt8) (base xb sb so sc bb bo bc mb:Nat) (nv av:OC):Prop:=
 Row oV w xb 136 (exC sb so sc bb bo bc mb nv on on av)∧∃u ib io ic,(At oV w sb so (stC 13 0 nm (-1) (-1))∧sb<w.heap.size)∧(w.cell? ⟨bb,bo,none⟩=some (.slice (some ⟨ib,io,none⟩) 1 ic)∧bb<w.heap.size)∧
  (w.cell? ⟨ib,io,none⟩=some (.int .i64 0)∧ib<w.heap.size)∧(w.cell? ⟨mb,0,none⟩=some u∧mb<w.heap.size)∧Mem.Own aV w base 5 u m∧m.length≤4096∧xb<base∧xb≠mb
def wR (w:World) (nm:ByteArray) (m:List UInt8) (xb sb so sc bb bo bc mb:Nat) (nv av:OC):Prop:=
 ∃g c ts u,Row oV w xb 136 (exC sb so sc bb bo bc mb nv ⟨.slice (some ⟨g,0,none⟩) 1 c,rfl⟩ ts av)∧w.cell? ⟨g,0,none⟩=some (.string nm)∧w.cell? ⟨g,1,none⟩=some u∧Rd aV w u m∧g<w.heap.size∧1≤c
variable {w w':World} {nm:ByteArray} {m:List UInt8} {base xb sb so sc bb bo bc mb:Nat} {nv av:OC}
theorem Oy.below (h:Oy w nm m base xb sb so sc bb bo bc mb nv av) (hb:Below w.heap.size w w'):Oy w' nm m base xb sb so sc bb bo bc mb nv av:=by
 obtain ⟨h1,u,ib,io,ic,⟨h2,l2⟩,⟨h3,l3⟩,⟨h4,l4⟩,⟨h5,l5⟩,h6,h7⟩:=h;have hl:∀b,b<w.heap.size→b<w'.heap.size:=fun b h=>bO h hb.size;exact ⟨h1.below hb h1.lt,u,ib,io,ic,⟨h2.below hb l2,hl _ l2⟩,⟨(hb.cell (p:=⟨bb,bo,none⟩) l3).trans h3,hl _ l3⟩,⟨(hb.cell (p:=⟨ib,io,none⟩) l4).trans h4,hl _ l4⟩,⟨(hb.cell (p:=⟨mb,0,none⟩) l5).trans h5,hl _ l5⟩,h6.below' hb,h7⟩
theorem wR.below (h:wR w nm m xb sb so sc bb bo bc mb nv av) (hb:Below w.heap.size w w'):wR w' nm m xb sb so sc bb bo bc mb nv av:=by
 obtain ⟨g,c,ts,u,h1,h2,h3,h4,h5,h6⟩:=h;exact ⟨g,c,ts,u,h1.below hb h1.lt,(hb.cell (p:=⟨g,0,none⟩) h5).trans h2,(hb.cell (p:=⟨g,1,none⟩) h5).trans h3,h4.below hb,bO h5 hb.size,h6⟩
theorem Rd.WR {r:Nat} {t:TypeId} {l:List OC} {u:Value} (h4:Rd aV w u m) (hg:w.grownBy w' (some r)) (hr:Row oV w r t l) (hl:∀x∈l,∀y,oV x≠aV y):Rd aV w' u m:=by
 rcases h4 with hn | ⟨b,o,cap,rfl,hc,ha,hlt⟩
 ·exact .inl hn
 ·refine .inr ⟨b,o,cap,rfl,hc,?_,bO hlt hg.size⟩;intro i hi;refine (nU (a:=⟨b,o+i,none⟩) (hg.block b hlt ?_)).trans (ha i hi);intro e;injection e with e
  subst e;have h7:=ha i hi;have h8:=hr.cell? (o+i);rw [h8] at h7;rw [bM hi] at h7;rcases Ik (o+i) l.length with hk | hk
  ·rw [bM hk] at h7;simp only [lK,az] at h7;exact hl _ (pJ hk) _ h7
  ·rw [qX (by simpa using hk)] at h7;cases h7
theorem wR.grown {r:Nat} {t:TypeId} (h:wR w nm m xb sb so sc bb bo bc mb nv av) (hg:w.grownBy w' (some r)) (hxr:xb≠r) (hr:Row oV w r t [ob false,oi 0]):wR w' nm m xb sb so sc bb bo bc mb nv av:=by
 obtain ⟨g,c,ts,u,h1,h2,h3,h4,h5,h6⟩:=h;have c0:=hr.cell? 0
 have hgr:g≠r:=by
  rintro rfl;rw [h2] at c0;cases c0
 refine ⟨g,c,ts,u,h1.grown hg (by intro e;injection e with e;exact hxr e),(nU (a:=⟨g,0,none⟩) (hg.block g h5 (by intro e;injection e with e;exact hgr e))).trans h2,(nU (a:=⟨g,1,none⟩) (hg.block g h5 (by intro e;injection e with e;exact hgr e))).trans h3,?_,bO h5 hg.size,h6⟩
 exact Rd.WR h4 hg hr (by intro x hx y;rcases nA.1 hx with rfl | hx;·intro e;cases e
                          rcases nA.1 hx with rfl | hx;·intro e;cases e
                          cases hx)
end
section
open Go Go.RowKit Mem
namespace Sc
abbrev Wd:=List UInt8
def bY (al:List UInt8) (ws:List Wd):List Wd:=ws.flatMap fun w=>al.map fun b=>w++[b]
def lvl (al:List UInt8):Nat→List Wd
 | 0=>[[]]
 | n+1=>bY al (lvl al n)
def upTo (al:List UInt8) (n:Nat):List Wd:=(List.range n).flatMap (lvl al)
theorem kC (al:List UInt8) (n:Nat):upTo al (n+1)=upTo al n++lvl al n:=by
 unfold upTo;rw [K7,qcY];simp
theorem vL (al:List UInt8) (ws:List Wd):(bY al ws).length=ws.length * al.length:=by
 induction ws with
 | nil=>simp [bY]
 | cons w ws ih=>simp only [bY,Md,fq,fD,nQ] at ih ⊢;rw [ih,Oj];omega
theorem acL (al:List UInt8) (n:Nat):(lvl al n).length=al.length ^ n:=by
 induction n with
 | zero=>rfl
 | succ n ih=>show (bY al (lvl al n)).length=_;rw [vL,ih,Nat.pow_succ]
theorem Fh (al:List UInt8) (n:Nat):∀w∈lvl al n,w.length=n:=by
 induction n with
 | zero=>intro w h;simp [lvl] at h;rw [h];rfl
 | succ n ih=>
  intro w h;simp only [lvl,bY,UJ,wS] at h;obtain ⟨x,hx,b,_,rfl⟩:=h;rw [fq,ih x hx];rfl
theorem IP (al:List UInt8) (n:Nat) (ha:al.length≤4) (hn:n≤9):(lvl al n).length≤262144:=by
 rw [acL];exact aL (Nat.pow_le_pow_left ha n) (aL (Nat.pow_le_pow_right (by decide) hn) (by decide))
theorem Bw (al:List UInt8) (ws:List Wd) (i:Nat) (h:i<ws.length):bY al (ws.take (i+1))=bY al (ws.take i)++al.map fun b=>ws[i]++[b]:=by
 rw [bY,AX h,qcY];simp [bY]
theorem map_take (al:List UInt8) (w:Wd) (j:Nat) (h:j<al.length):(al.take (j+1)).map (fun b=>w++[b])=(al.take j).map (fun b=>w++[b])++[w++[al[j]]]:=by
 rw [AX h,xm];rfl
theorem Ed (al:List UInt8) {a b:Nat} (h:a≤b):upTo al a<+:upTo al b:=by
 induction b with
 | zero=>rw [show a=0 by omega];exact List.prefix_refl _
 | succ b ih=>
  rcases Ik b a with h1 | h1
  ·rw [show a=b+1 by omega];exact List.prefix_refl _
  ·exact (ih h1).trans (by rw [kC];exact List.prefix_append _ _)
end Sc
def eX (D:Nat→Prop) (A B:World):Prop:=A.heap.size≤B.heap.size∧∀r o,¬D r→A.heap[r]?=some o→o.isCells=true→B.heap[r]?=some o
theorem eX.trans {D:Nat→Prop} {A B C:World} (h:eX D A B) (k:eX D B C):eX D A C:=⟨aL h.1 k.1,fun r o hd ho hc=>k.2 r o hd (h.2 r o hd ho hc) hc⟩
theorem eX.Rc {D:Nat→Prop} {A B:World} (h:Below A.heap.size A B):eX D A B:=⟨h.size,fun r o _ ho _=>(h.block r (jg.1 ho).1).trans ho⟩
theorem eX.row {D:Nat→Prop} {A B:World} {α:Type} {f:α→Value} {b:Nat} {t:TypeId} {l:List α} (h:eX D A B) (hr:Row f A b t l) (hd:¬D b):Row f B b t l:=h.2 b _ hd hr rfl
theorem eX.own {D:Nat→Prop} {A B:World} {α:Type} {f:α→Value} {base:Nat} {e:TypeId} {v:Value} {l:List α} (h:eX D A B) (ho:Mem.Own f A base e v l) (hd:∀r,base≤r→¬D r):Mem.Own f B base e v l:=by
 refine ⟨ho.1,?_⟩;rcases ho.2 with hn | ⟨g,cap,cur,rfl,hbg,hc,rest⟩
 ·exact .inl hn
 ·exact .inr ⟨g,cap,cur,rfl,hbg,h.2 g _ (hd g hbg) hc rfl,rest⟩
theorem mK {w:World} {α β:Type} {f:α→Value} {g:β→Value} {b1 b2:Nat} {e1 e2:TypeId} {v1 v2:Value} {l1:List α} {l2:List β} (h1:Mem.Own f w b1 e1 v1 l1) (h2:Mem.Own g w b2 e2 v2 l2) (hne:e1≠e2):∀k,v1.ownBlock=some k→some k≠v2.ownBlock:=by
 intro k hk e;rcases h1.2 with ⟨rfl,_⟩ | ⟨g1,c1,MU,rfl,_,hc1,_⟩
 ·cases hk
 ·rcases h2.2 with ⟨rfl,_⟩ | ⟨g2,c2,aee,rfl,_,hc2,_⟩
  ·cases e
  ·cases hk;injection e with e
   simp only at e;subst e;rw [hc1] at hc2;injection hc2 with hc2
   injection hc2 with _ hc2
   exact hne hc2
def jU (W:World) (base:Nat) (v:Value) (ws:List Sc.Wd):Prop:=
 ∃vals:List OC,vals.length=ws.length∧Mem.Own oV W base 22 v vals∧∀i (h:i<vals.length) (h2:i<ws.length),Mem.Own aV W base 5 (oV vals[i]) ws[i]
theorem jU.slice {W:World} {base:Nat} {v:Value} {ws:List Sc.Wd} (h:jU W base v ws):∃p cap,v= .slice p ws.length cap:=by
 obtain ⟨vals,h1,h2,_⟩:=h;obtain ⟨p,cap,rfl⟩:=h2.slice;exact ⟨p,cap,by rw [h1]⟩
theorem jU.keep {D:Nat→Prop} {A B:World} {base:Nat} {v:Value} {ws:List Sc.Wd} (h:jU A base v ws) (hk:eX D A B) (hd:∀r,base≤r→¬D r):jU B base v ws:=by
 obtain ⟨vals,h1,h2,h3⟩:=h;exact ⟨vals,h1,hk.own h2 hd,fun i h h4=>hk.own (h3 i h h4) hd⟩
theorem jU.below {A B:World} {base:Nat} {v:Value} {ws:List Sc.Wd} (h:jU A base v ws) (hb:Below A.heap.size A B):jU B base v ws:=by
 obtain ⟨vals,h1,h2,h3⟩:=h;exact ⟨vals,h1,h2.below' hb,fun i h h4=>(h3 i h h4).below' hb⟩
theorem jU.nil (W:World) (base:Nat):jU W base (.slice none 0 0) []:=⟨[],rfl,Own.nil _ _ _,fun i h=>by cases h⟩
theorem jU.elem {W:World} {base:Nat} {p:Option Addr} {n c:Nat} {ws:List Sc.Wd} (h:jU W base (.slice p n c) ws) (k:Nat) (hk:k<ws.length):∃b q m cw,p=some ⟨b,0,none⟩∧W.cell? ⟨b,k,none⟩=some (.slice q m cw)∧m=ws[k].length∧Mem.Own aV W base 5 (.slice q m cw) ws[k]:=by
 obtain ⟨vals,h1,h2,h3⟩:=h;have hkv:k<vals.length:=by omega
 obtain ⟨g,hg⟩:∃g,p=some ⟨g,0,none⟩:=by
  rcases h2.2 with ⟨_,h0⟩ | ⟨g,cap,cur,he,_⟩
  ·omega
  ·injection he with he1 _;exact ⟨g,he1⟩
 subst hg;have hat:=h2.at g rfl k hkv;rw [bM hkv,nR] at hat;have ho:=h3 k hkv hk;obtain ⟨q,cw,hq⟩:=ho.slice;refine ⟨g,q,_,cw,rfl,?_,rfl,?_⟩
 ·rw [hat];show some (oV vals[k])=_;rw [hq]
 ·rw [← hq];exact ho
theorem jU.snoc {B:World} {base:Nat} {v':Value} {vals:List OC} {ws:List Sc.Wd} {x:OC} {w:Sc.Wd} (h1:vals.length=ws.length) (h3:∀i (h:i<vals.length) (h2:i<ws.length),Mem.Own aV B base 5 (oV vals[i]) ws[i])
  (hx:Mem.Own aV B base 5 (oV x) w) (ho:Mem.Own oV B base 22 v' (vals++[x])):jU B base v' (ws++[w]):=by
 refine ⟨vals++[x],by simp [h1],ho,fun i h h2=> ?_⟩;by_cases hi:i<vals.length
 ·rw [Jt hi,Jt (by omega)];exact h3 i hi (by omega)
 ·have:i=vals.length:=by simp at h;omega
  subst this;rw [qct (ah _),qct (by omega)];simpa [h1] using hx
theorem jU.mono {W:World} {base b':Nat} {v:Value} {ws:List Sc.Wd} (h:jU W base v ws) (hb:b'≤base):jU W b' v ws:=by
 obtain ⟨vals,h1,h2,h3⟩:=h;exact ⟨vals,h1,h2.mono hb,fun i h h4=>(h3 i h h4).mono hb⟩
theorem jU.app {A B:World} {base b2:Nat} {v nv:Value} {ws:List Sc.Wd} {vals:List OC} (h:jU A base v ws) (hn:Mem.Own oV A b2 22 nv vals) (hg:A.grownBy B nv.ownBlock) (hne:∀g,v.ownBlock=some g→some g≠nv.ownBlock):jU B base v ws:=by
 obtain ⟨vs,h1,h2,h3⟩:=h;exact ⟨vs,h1,h2.dK hg hne,fun i h h4=>(h3 i h h4).dK hg (mK (h3 i h h4) hn (by decide))⟩
theorem jU.row {W:World} {base:Nat} {v:Value} {ws:List Sc.Wd} (h:jU W base v ws):∀g,v.ownBlock=some g→base≤g∧g<W.heap.size:=by
 obtain ⟨vs,h1,h2,h3⟩:=h;exact fun g hg=>h2.lt g hg
theorem aa3:lF Tryz.prog 42 22 24:=lF.mk' (z:= .slice none 0 0) Tryz.underlying42 (by kernel_rfl) rfl
end
section
open Go Go.RowKit Mem
end
section
open Go.RowKit Mem
def Ux (w:World) (v:Value) (nm:ByteArray) (m:List UInt8):Prop:=
 ∃g c u,v= .agg #[.bool true, .int .i64 0, .slice (some ⟨g,0,none⟩) 1 c]∧w.cell? ⟨g,0,none⟩=some (.string nm)∧w.cell? ⟨g,1,none⟩=some u∧Rd aV w u m∧g<w.heap.size∧1≤c
theorem Ux.below {w w':World} {v:Value} {nm:ByteArray} {m:List UInt8} (h:Ux w v nm m) (hb:Below w.heap.size w w'):Ux w' v nm m:=by
 obtain ⟨g,c,u,rfl,h2,h3,h4,h5,h6⟩:=h;exact ⟨g,c,u,rfl,(hb.cell (p:=⟨g,0,none⟩) h5).trans h2,(hb.cell (p:=⟨g,1,none⟩) h5).trans h3,h4.below hb,bO h5 hb.size,h6⟩
end
end Go.Proofs.YtncnfncglacheaaGreatDoor
