/- Part of a proof. -/
import Derived.Test.YtncnfncglacheaaGreatDoorMDfM
import Derived.WideKeyPair
import Derived.DeepKeys4
import Derived.Tactics
import Derived.Tactics2
import Derived.Defers
import Derived.Laws.Pointers
import Derived.Test.YtncnfncglacheaaGreatDoorMRangeQ
import Derived.WideMake
set_option linter.all false
set_option maxRecDepth 100000
set_option maxHeartbeats 64000000
namespace Go.Proofs.YtncnfncglacheaaGreatDoor
section
open Go Go.RowKit Mem
def NZ.zx (N:NZ):Prop:=∀b,∃i,i<N.cls.length∧rV N.cls b=(i:Int)
def NZ.cell (N:NZ) (k:Nat) (b:UInt8):Ce:=((N.rows[k]?.getD [])[(rV N.cls b).toNat]?).getD ⟨0,0,0⟩
def Ce.next (c:Ce):Int:=if c.act=3 then 0 else c.tgt
def Ce.refuses (c:Ce):Bool:=decide (c.act=3)
def Ce.out (c:Ce) (b:UInt8):List UInt8:=if c.act=0 then [b] else if c.act=2 then [c.b] else []
theorem acv (w0 w:World) (N:NZ) (xb k:Nat) (pc pr pe po:Option Addr) (kc kr ke ko:Nat) (l:List UInt8) (b:UInt8) (hv:ng w0 (.agg #[.slice pc N.cls.length kc, .slice pr N.rows.length kr, .slice pe N.ends.length ke]) N) (hB:Below w0.heap.size w0 w) (hxb:w0.heap.size≤xb)
  (hx:Row oV w xb 128 (GY k false (dB pc N.cls.length kc) (dB pr N.rows.length kr) (dB pe N.ends.length ke) (dB po l.length ko))) (ho:Mem.Own aV w (xb+1) 5 (.slice po l.length ko) l) (hk:k<N.rows.length) (gH:N.zx) (hrl:N.rows[k].length=N.cls.length) (hcl:N.cls.length≤256) (hll:l.length≤140737488351232):
  Calls Tryz.prog 48 #[.pointer (some ⟨xb,0,none⟩), .int .u8 (b.toNat:Int)] w fun e w'=>e= .returned (.tuple #[])∧Below w0.heap.size w0 w'∧
   ∃po' ko' l',Hid (l'=l++(N.cell k b).out b)∧Row oV w' xb 128 (GY (N.cell k b).next (N.cell k b).refuses (dB pc N.cls.length kc) (dB pr N.rows.length kr) (dB pe N.ends.length ke) (dB po' l'.length ko'))∧Mem.Own aV w' (xb+1) 5 (.slice po' l'.length ko') l':=by
 obtain ⟨vc,vr,ve,he,h1,h2,h3⟩:=hv
 obtain ⟨rfl,rfl,rfl⟩: .slice pc N.cls.length kc=vc∧ .slice pr N.rows.length kr=vr∧ .slice pe N.ends.length ke=ve:=by
  have:=congrArg (fun v=>match v with | Value.agg a=>a.toList | _=>[]) he;simpa using this
 have HC:=Lib.hid (h1.below hB);obtain ⟨rb,ro,u,rfl,hu,Xv,hcr,lrb⟩:=h2.elem k hk;obtain ⟨pu,ku,rfl⟩:=Xv.slice;obtain ⟨i,hil,hi⟩:=gH b;obtain ⟨ub,uo,rfl,hce,Cj,lub⟩:=Xv.elem i (by omega)
 have hcell:N.cell k b=N.rows[k][i]'(by omega):=by
  unfold NZ.cell;rw [hi,bK hk];show (N.rows[k][(i:Int).toNat]?).getD _=_;rw [show (i:Int).toNat=i by simp,bK (by omega)];rfl
 rw [← hcell] at hce;have hu':=(hB.cell (p:=⟨rb,ro+k,none⟩) lrb).trans hu;have abw:=hce.below hB lub;have ae9:=bJ lrb hB.size;have afj:=bJ lub hB.size;clear he h1 h2 h3 hu Xv hce hcell hcr;generalize hc:N.cell k b=c at abw ⊢;clear hc;have HB:=Lib.hid hB;have HO:=Lib.hid ho;have hq:(k:Int)<(N.rows.length:Int):=by omega
 have hq2:(i:Int)<(N.rows[k].length:Int):=by omega
 have HX:=Lib.hid hx;have HU:=Lib.hid hu';have HE:=Lib.hid abw;have c1:w.cell? ⟨xb,1,none⟩=some (.bool false):=by rw [hx.cell?];rfl
 have lx:=hx.lt;clear hx hu' abw hB ho;go_enter Tryz.func48,Tryz.ntmps48;go_upto_region 1 with (fail)
 have HS:Hid (∀X,Below w.heap.size w X→X.cell? ⟨xb,3,none⟩=some (.slice (some ⟨rb,ro,none⟩) N.rows.length kr)∧X.cell? ⟨xb,0,none⟩=some (.int .i64 k)∧X.cell? ⟨rb,ro+k,none⟩=some (.slice (some ⟨ub,uo,none⟩) N.rows[k].length ku)∧X.cell? ⟨xb,2,none⟩=some (.slice pc N.cls.length kc)∧At oV X ub (uo+i * 3) (sO c)):=Lib.hid fun X hX=>by
  have h:=HX.out.below hX lx;exact ⟨by rw [h.cell?];rfl,by rw [h.cell?];rfl,(hX.cell (p:=⟨rb,ro+k,none⟩) ae9).trans HU.out,by rw [h.cell?];rfl,HE.out.below hX afj⟩
 go_cut [4] (fun s4 wx=>∃n4:Nat,s4= .pointer (some ⟨n4,0,none⟩)∧Row oV wx n4 61 (sO c)∧Below w.heap.size w wx∧w.heap.size≤n4)
 case first=>
  clear c1;refine aC (S:=fun X=>Below w.heap.size w X) 22 rfl (by kernel_rfl) (ak _ _).drew fun hS=> ?_;refine tk 0 10 (.pointer (some ⟨xb,0,none⟩)) hS ?_;refine tk 1 11 (.pointer (some ⟨xb,0,none⟩)) hS ?_;refine tk 2 12 (.pointer (some ⟨xb,2,none⟩)) hS ?_;refine tk 3 13 (.pointer (some ⟨xb,3,none⟩)) hS ?_;refine tk 4 14 (.slice (some ⟨rb,ro,none⟩) N.rows.length kr) hS ?_ rfl (qi fun W' h=>by obtain ⟨q0,q1,q2,q3,_⟩:=HS.out W' h;go_simp);refine tk 5 15 (.pointer (some ⟨xb,0,none⟩)) hS ?_;refine tk 6 16 (.pointer (some ⟨xb,0,none⟩)) hS ?_;refine tk 7 17 (.pointer (some ⟨xb,0,none⟩)) hS ?_;refine tk 8 18 (.pointer (some ⟨xb,0,none⟩)) hS ?_;refine tk 9 19 (.int .i64 k) hS ?_ rfl (qi fun W' h=>by obtain ⟨q0,q1,q2,q3,_⟩:=HS.out W' h;go_simp);refine tk 10 20 (.pointer (some ⟨rb,ro+k,none⟩)) hS ?_ rfl yg;refine tk 11 21 (.slice (some ⟨ub,uo,none⟩) N.rows[k].length ku) hS ?_ rfl (qi fun W' h=>by obtain ⟨q0,q1,q2,q3,_⟩:=HS.out W' h;go_simp);refine tk 12 22 (.pointer (some ⟨xb,0,none⟩)) hS ?_;refine tk 13 23 (.pointer (some ⟨xb,0,none⟩)) hS ?_;refine tk 14 24 (.pointer (some ⟨xb,2,none⟩)) hS ?_;refine tk 15 25 (.pointer (some ⟨xb,2,none⟩)) hS ?_;refine tk 16 26 (.slice pc N.cls.length kc) hS ?_ rfl (qi fun W' h=>by obtain ⟨q0,q1,q2,q3,_⟩:=HS.out W' h;go_simp);refine tk 17 27 (.int .u8 (b.toNat:Int)) hS ?_;refine kL (rs:=[18,21]) (by kernel_rfl) (by simp) (cZ.cons (by omega) rfl (fun K' hK=> ?_) (cZ.cons (by omega) rfl (fun K' hK=> ?_) cZ.nil))
  ·refine cD 28 89 #[.slice pc N.cls.length kc, .int .u8 (b.toNat:Int)] ?_;refine (RZ _ _ N.cls b (HC.out.below hS) (by omega)).mono ?_;rintro e Wb ⟨rfl,hBb⟩;replace hS:=hS.trans (hBb.mono hS.size);refine ⟨_,rfl,hK.out _ _ hS fun _=> ?_⟩;clear hK hBb;simp only [sA,sB,sC];rw [hi];refine tk 19 29 (.pointer (some ⟨ub,uo+i * 3,none⟩)) hS ?_ rfl yg;refine tk 20 30 (.agg (Dp c)) hS ?_ rfl (aA (f:=oV) (l:=sO c) eu (.tmp 29) rfl ub (uo+i * 3) rfl (fun W' h=>(HS.out W' h).2.2.2.2) rfl rfl);refine iT 21 (fun K' hK=> ?_);have hZ:Row oV (Wb.alloc (.cells #[.int .i64 0, .int .i64 0, .int .u8 0] 61)) Wb.heap.size 61 [oi 0,oi 0,⟨.int .u8 0,rfl⟩]:=Row.new _ _ rfl;have KV:w.heap.size≤Wb.heap.size:=hS.size;replace hS:=hS.alloc hS.size (.cells #[.int .i64 0, .int .i64 0, .int .u8 0] 61);refine aD 4 (.cells #[.int .i64 0, .int .i64 0, .int .u8 0] 61) ?_;refine hK.out _ _ hS fun _=> ?_;clear hK;simp only [sA,sB,sC];generalize (Wb.alloc (.cells #[.int .i64 0, .int .i64 0, .int .u8 0] 61))=Wz at hS hZ ⊢;generalize Wb.heap.size=n4 at hZ KV ⊢;refine aL (by kernel_rfl) ?_;simp only [List.drop]
   go_wp2_with (first
    | ((with_reducible refine zS (l':=sO c) hZ eu ?_);(intro We hse Y2 hze)))
   go_meet;exact ⟨n4,rfl,hse,hS.grown Y2 hS.size (fun k e=>by cases e;exact KV),KV⟩
  ·generalize w.drew=Wd at hS ⊢;have hZ:Row oV (Wd.alloc (.cells #[.int .i64 0, .int .i64 0, .int .u8 0] 61)) Wd.heap.size 61 [oi 0,oi 0,⟨.int .u8 0,rfl⟩]:=Row.new _ _ rfl;have KV:w.heap.size≤Wd.heap.size:=hS.size;replace hS:=hS.alloc hS.size (.cells #[.int .i64 0, .int .i64 0, .int .u8 0] 61);refine aD 4 (.cells #[.int .i64 0, .int .i64 0, .int .u8 0] 61) ?_;refine hK.out _ _ hS fun _=> ?_;clear hK;simp only [sA,sB,sC];generalize (Wd.alloc (.cells #[.int .i64 0, .int .i64 0, .int .u8 0] 61))=Wz at hS hZ ⊢;generalize Wd.heap.size=n4 at hZ KV ⊢;refine iT 18 (fun K' hK=> ?_);refine cD 28 89 #[.slice pc N.cls.length kc, .int .u8 (b.toNat:Int)] ?_;refine (RZ _ _ N.cls b (HC.out.below hS) (by omega)).mono ?_;rintro e Wb ⟨rfl,hBb⟩;replace hS:=hS.trans (hBb.mono hS.size);replace hZ:=hZ.below hBb hZ.lt;refine ⟨_,rfl,hK.out _ _ hS fun _=> ?_⟩;clear hK hBb;simp only [sA,sB,sC];rw [hi];refine tk 19 29 (.pointer (some ⟨ub,uo+i * 3,none⟩)) hS ?_ rfl yg;refine tk 20 30 (.agg (Dp c)) hS ?_ rfl (aA (f:=oV) (l:=sO c) eu (.tmp 29) rfl ub (uo+i * 3) rfl (fun W' h=>(HS.out W' h).2.2.2.2) rfl rfl);refine aL (by kernel_rfl) ?_;simp only [List.drop]
   go_wp2_with (first
    | ((with_reducible refine zS (l':=sO c) hZ eu ?_);(intro We hse Y2 hze)))
   go_meet;exact ⟨n4,rfl,hse,hS.grown Y2 hS.size (fun k e=>by cases e;exact KV),KV⟩
 case rest=>
  clear c1;obtain ⟨n4,rfl,hce,hX,KV⟩:=hcut;have hx:=HX.out.below hX lx;have hO:=HO.out.below' hX;have hBw:=HB.out.trans (hX.mono HB.out.size);clear hX;have c0:wc.cell? ⟨n4,0,none⟩=some (.int .i64 c.tgt):=by rw [hce.cell?];rfl
  have e0:wc.cell? ⟨xb,0,none⟩=some (.int .i64 k):=by rw [hx.cell?];rfl
  have f0:=hx.frozen 0;have hxn:xb<n4:=bJ lx KV;have hx2:Row oV (wc.setCell ⟨xb,0,none⟩ (.int .i64 c.tgt)) xb 128 (GY c.tgt false (dB pc N.cls.length kc) (dB (some ⟨rb,ro,none⟩) N.rows.length kr) (dB pe N.ends.length ke) (dB po l.length ko)):=hx.set 0 (oi c.tgt);have Dh:Row oV (wc.setCell ⟨xb,0,none⟩ (.int .i64 c.tgt)) n4 61 (sO c):=hce.ai (by omega) _ _;have hO2:Mem.Own aV (wc.setCell ⟨xb,0,none⟩ (.int .i64 c.tgt)) (xb+1) 5 (.slice po l.length ko) l:=hO.dW (iQ (aY (ak _ _) (some xb)) 0 _) (fun g hg e=>by injection e with e;have:=(hO.lt g hg).1;omega);have hB2:Below w0.heap.size w0 (wc.setCell ⟨xb,0,none⟩ (.int .i64 c.tgt)):=aM hBw 0 hxb _;go_upto_region 3 with (fail);generalize (wc.setCell ⟨xb,0,none⟩ (.int .i64 c.tgt))=W2 at hx2 Dh hO2 hB2 ⊢;clear c0 e0 f0 hx hce hO hBw;have ca:W2.cell? ⟨n4,1,none⟩=some (.int .i64 c.act):=by rw [Dh.cell?];rfl
  have adZ:=Dh.lt;have hlo:∀g,(Value.slice po l.length ko).ownBlock=some g→g<n4:=fun g hg=>bJ (HO.out.lt g hg).2 KV;by_cases a0:c.act=0
  ·have hnx:c.next=c.tgt:=by unfold Ce.next;rw [if_neg (by omega)]
   have hrf:c.refuses=false:=decide_eq_false (by omega);have hout:c.out b=[b]:=by unfold Ce.out;rw [if_pos a0]
   have eb:W2.cell? ⟨n4,2,none⟩=some (.int .u8 (c.b.toNat:Int)):=by rw [Dh.cell?];rfl
   have fb:=Dh.frozen 2;have Z8:Row oV (W2.setCell ⟨n4,2,none⟩ (.int .u8 (b.toNat:Int))) n4 61 [oi c.tgt,oi c.act,⟨.int .u8 (b.toNat:Int),rfl⟩]:=Dh.set 2 ⟨.int .u8 (b.toNat:Int),rfl⟩;have hx3:=hx2.ai (b':=n4) (by omega) 2 (.int .u8 (b.toNat:Int));have hO3:Mem.Own aV (W2.setCell ⟨n4,2,none⟩ (.int .u8 (b.toNat:Int))) (xb+1) 5 (.slice po l.length ko) l:=hO2.dW (iQ (aY (ak _ _) (some n4)) 2 _) (fun g hg e=>by injection e with e;have:=hlo g hg;omega);have hB3:=aM hB2 (b:=n4) 2 (by omega) (.int .u8 (b.toNat:Int));go_upto_region 8 with (fail);generalize (W2.setCell ⟨n4,2,none⟩ (.int .u8 (b.toNat:Int)))=W3 at Z8 hx3 hO3 hB3 ⊢;clear eb fb hx2 hO2 hB2 ca Dh adZ;have eb:W3.cell? ⟨n4,2,none⟩=some (.int .u8 (b.toNat:Int)):=by rw [Z8.cell?];rfl
   have hln:=Z8.lt;have e5:W3.cell? ⟨xb,5,none⟩=some (.slice po l.length ko):=by rw [hx3.cell?];rfl
   have HK:=Lib.hid (And.intro hx3 (And.intro hO3 hB3));refine aC (S:=fun X=>X.cell? ⟨xb,5,none⟩=some (.slice po l.length ko)∧X.cell? ⟨n4,2,none⟩=some (.int .u8 (b.toNat:Int))) 9 rfl (by kernel_rfl) ⟨e5,eb⟩ fun hS=> ?_;refine tk 0 47 (.pointer (some ⟨xb,0,none⟩)) hS ?_;refine tk 1 48 (.pointer (some ⟨xb,0,none⟩)) hS ?_;refine tk 2 49 (.pointer (some ⟨xb,0,none⟩)) hS ?_;refine tk 3 50 (.pointer (some ⟨xb,5,none⟩)) hS ?_;refine tk 4 51 (.slice po l.length ko) hS ?_ rfl (qi fun W' h=>by obtain ⟨q0,q1⟩:=h;go_simp);refine tk 5 52 (.pointer (some ⟨n4,2,none⟩)) hS ?_;refine tk 6 53 (.int .u8 (b.toNat:Int)) hS ?_ rfl (qi fun W' h=>by obtain ⟨q0,q1⟩:=h;go_simp);refine iT 7 (fun K' hK=> ?_);have lW:xb+1≤W3.drew.heap.size:=HK.out.1.lt
   have jg:(W3.drew.alloc (.cells #[.int .u8 (b.toNat:Int)] 5)).cell? ⟨xb,5,none⟩=some (.slice po l.length ko)∧(W3.drew.alloc (.cells #[.int .u8 (b.toNat:Int)] 5)).cell? ⟨n4,2,none⟩=some (.int .u8 (b.toNat:Int)):=
    ⟨(((ak W3.drew.heap.size W3.drew).alloc (af _) _).cell (p:=⟨xb,5,none⟩) lW).trans hS.1,(((ak W3.drew.heap.size W3.drew).alloc (af _) _).cell (p:=⟨n4,2,none⟩) hln).trans hS.2⟩
   refine tV (d:=54) (v:= .slice (some ⟨W3.drew.heap.size,0,none⟩) 1 1) (w':=W3.drew.alloc (.cells #[.int .u8 (b.toNat:Int)] 5)) rfl rfl (by first | rfl | kernel_rfl) ?_;refine hK.out _ _ jg fun _=> ?_;clear hK;simp only [sA,sB,sC];refine iT 8 (fun K' hK=> ?_);have hOd:Mem.Own aV W3.drew (xb+1) 5 (.slice po l.length ko) l:=HK.out.2.1;refine jc (w:=W3.drew) (l:=l) (v:= .slice po l.length ko) yH (.tmp 51) (.tmp 54) 22 rfl rfl rfl kY rfl hOd b (.int .u8 (b.toNat:Int)) rfl 5 rfl (by omega) (by omega) lW (l++[b]) rfl ?_;intro p3 k3 w3 hO3 hG3 _;have hlen:(l++[b]).length=l.length+1:=by simp
   rw [hlen] at hO3;have hG4:W3.grownBy w3 (Value.slice po l.length ko).ownBlock:=(ug (aY (ak _ _) _)).andThen ((aY ((ak W3.drew.heap.size W3.drew).alloc (af _) _) (Value.slice po l.length ko).ownBlock).andThen hG3 (fun j e=> .inr e)) (fun j e=> .inr e);have hne:∀g,(Value.slice po l.length ko).ownBlock=some g→xb<g∧g<n4:=fun g hg=>⟨(HK.out.2.1.lt g hg).1,hlo g hg⟩
   have dY:w3.cell? ⟨xb,5,none⟩=some (.slice po l.length ko)∧w3.cell? ⟨n4,2,none⟩=some (.int .u8 (b.toNat:Int)):=
    ⟨(o6 (a:=⟨xb,5,none⟩) (hG4.block xb (Nat.lt_of_succ_le lW) (fun e=>by have:=(hne _ e.symm).1;omega))).trans hS.1,(o6 (a:=⟨n4,2,none⟩) (hG4.block n4 hln (fun e=>by have:=(hne _ e.symm).2;omega))).trans hS.2⟩
   refine hK.out _ _ dY fun _=> ?_;clear hK hS jg;simp only [Act.put,Ae,El,xY];refine aL (by kernel_rfl) ?_;simp only [List.drop];have hx3:=HK.out.1.grown hG4 (fun e=>by have:=(hne _ e.symm).1;omega);have f5:=hx3.frozen 5;have g5:=dY.1;have hB3:Below w0.heap.size w0 w3:=HK.out.2.2.grown hG4 HK.out.2.2.size (fun g e=>by have:=(hne _ e).1;omega);have hx4:Row oV (w3.setCell ⟨xb,5,none⟩ (.slice p3 (l.length+1) k3)) xb 128 (GY c.tgt false (dB pc N.cls.length kc) (dB (some ⟨rb,ro,none⟩) N.rows.length kr) (dB pe N.ends.length ke) (dB p3 (l.length+1) k3)):=hx3.set 5 (dB p3 (l.length+1) k3);have hO4:Mem.Own aV (w3.setCell ⟨xb,5,none⟩ (.slice p3 (l.length+1) k3)) (xb+1) 5 (.slice p3 (l.length+1) k3) (l++[b]):=hO3.dW (iQ (aY (ak _ _) (some xb)) 5 _) (fun g hg e=>by injection e with e;have:=(hO3.lt g hg).1;omega);have hB4:Below w0.heap.size w0 (w3.setCell ⟨xb,5,none⟩ (.slice p3 (l.length+1) k3)):=aM hB3 5 hxb _;have HF:=Lib.hid (And.intro hx4 (And.intro hO4 hB4));clear hx4 hO4 hB4 hx3 hO3 hG3 hG4 hB3 e5 dY;go_wp2;go_end0;exact ⟨rfl,HF.out.2.2,p3,k3,l++[b],Lib.hid (by rw [hout]),by rw [hlen,hnx,hrf];exact HF.out.1,by rw [hlen];exact HF.out.2.1⟩
  by_cases a2:c.act=2
  ·have hnx:c.next=c.tgt:=by unfold Ce.next;rw [if_neg (by omega)]
   have hrf:c.refuses=false:=decide_eq_false (by omega);have hout:c.out b=[c.b]:=by unfold Ce.out;rw [if_neg a0,if_pos a2]
   have eb:W2.cell? ⟨n4,2,none⟩=some (.int .u8 (c.b.toNat:Int)):=by rw [Dh.cell?];rfl
   go_upto_region 8 with (fail);clear ca Dh;have hln:=adZ;have e5:W2.cell? ⟨xb,5,none⟩=some (.slice po l.length ko):=by rw [hx2.cell?];rfl
   have HK:=Lib.hid (And.intro hx2 (And.intro hO2 hB2));refine aC (S:=fun X=>X.cell? ⟨xb,5,none⟩=some (.slice po l.length ko)∧X.cell? ⟨n4,2,none⟩=some (.int .u8 (c.b.toNat:Int))) 9 rfl (by kernel_rfl) ⟨e5,eb⟩ fun hS=> ?_;refine tk 0 47 (.pointer (some ⟨xb,0,none⟩)) hS ?_;refine tk 1 48 (.pointer (some ⟨xb,0,none⟩)) hS ?_;refine tk 2 49 (.pointer (some ⟨xb,0,none⟩)) hS ?_;refine tk 3 50 (.pointer (some ⟨xb,5,none⟩)) hS ?_;refine tk 4 51 (.slice po l.length ko) hS ?_ rfl (qi fun W' h=>by obtain ⟨q0,q1⟩:=h;go_simp);refine tk 5 52 (.pointer (some ⟨n4,2,none⟩)) hS ?_;refine tk 6 53 (.int .u8 (c.b.toNat:Int)) hS ?_ rfl (qi fun W' h=>by obtain ⟨q0,q1⟩:=h;go_simp);refine iT 7 (fun K' hK=> ?_);have lW:xb+1≤W2.drew.heap.size:=HK.out.1.lt
   have jg:(W2.drew.alloc (.cells #[.int .u8 (c.b.toNat:Int)] 5)).cell? ⟨xb,5,none⟩=some (.slice po l.length ko)∧(W2.drew.alloc (.cells #[.int .u8 (c.b.toNat:Int)] 5)).cell? ⟨n4,2,none⟩=some (.int .u8 (c.b.toNat:Int)):=
    ⟨(((ak W2.drew.heap.size W2.drew).alloc (af _) _).cell (p:=⟨xb,5,none⟩) lW).trans hS.1,(((ak W2.drew.heap.size W2.drew).alloc (af _) _).cell (p:=⟨n4,2,none⟩) hln).trans hS.2⟩
   refine tV (d:=54) (v:= .slice (some ⟨W2.drew.heap.size,0,none⟩) 1 1) (w':=W2.drew.alloc (.cells #[.int .u8 (c.b.toNat:Int)] 5)) rfl rfl (by first | rfl | kernel_rfl) ?_;refine hK.out _ _ jg fun _=> ?_;clear hK;simp only [sA,sB,sC];refine iT 8 (fun K' hK=> ?_);have hOd:Mem.Own aV W2.drew (xb+1) 5 (.slice po l.length ko) l:=HK.out.2.1;refine jc (w:=W2.drew) (l:=l) (v:= .slice po l.length ko) yH (.tmp 51) (.tmp 54) 22 rfl rfl rfl kY rfl hOd c.b (.int .u8 (c.b.toNat:Int)) rfl 5 rfl (by omega) (by omega) lW (l++[c.b]) rfl ?_;intro p3 k3 w3 hO3 hG3 _;have hlen:(l++[c.b]).length=l.length+1:=by simp
   rw [hlen] at hO3;have hG4:W2.grownBy w3 (Value.slice po l.length ko).ownBlock:=(ug (aY (ak _ _) _)).andThen ((aY ((ak W2.drew.heap.size W2.drew).alloc (af _) _) (Value.slice po l.length ko).ownBlock).andThen hG3 (fun j e=> .inr e)) (fun j e=> .inr e);have hne:∀g,(Value.slice po l.length ko).ownBlock=some g→xb<g∧g<n4:=fun g hg=>⟨(HK.out.2.1.lt g hg).1,hlo g hg⟩
   have dY:w3.cell? ⟨xb,5,none⟩=some (.slice po l.length ko)∧w3.cell? ⟨n4,2,none⟩=some (.int .u8 (c.b.toNat:Int)):=
    ⟨(o6 (a:=⟨xb,5,none⟩) (hG4.block xb (Nat.lt_of_succ_le lW) (fun e=>by have:=(hne _ e.symm).1;omega))).trans hS.1,(o6 (a:=⟨n4,2,none⟩) (hG4.block n4 hln (fun e=>by have:=(hne _ e.symm).2;omega))).trans hS.2⟩
   refine hK.out _ _ dY fun _=> ?_;clear hK hS jg;simp only [Act.put,Ae,El,xY];refine aL (by kernel_rfl) ?_;simp only [List.drop];have hx3:=HK.out.1.grown hG4 (fun e=>by have:=(hne _ e.symm).1;omega);have f5:=hx3.frozen 5;have g5:=dY.1;have hB3:Below w0.heap.size w0 w3:=HK.out.2.2.grown hG4 HK.out.2.2.size (fun g e=>by have:=(hne _ e).1;omega);have hx4:Row oV (w3.setCell ⟨xb,5,none⟩ (.slice p3 (l.length+1) k3)) xb 128 (GY c.tgt false (dB pc N.cls.length kc) (dB (some ⟨rb,ro,none⟩) N.rows.length kr) (dB pe N.ends.length ke) (dB p3 (l.length+1) k3)):=hx3.set 5 (dB p3 (l.length+1) k3);have hO4:Mem.Own aV (w3.setCell ⟨xb,5,none⟩ (.slice p3 (l.length+1) k3)) (xb+1) 5 (.slice p3 (l.length+1) k3) (l++[c.b]):=hO3.dW (iQ (aY (ak _ _) (some xb)) 5 _) (fun g hg e=>by injection e with e;have:=(hO3.lt g hg).1;omega);have hB4:Below w0.heap.size w0 (w3.setCell ⟨xb,5,none⟩ (.slice p3 (l.length+1) k3)):=aM hB3 5 hxb _;have HF:=Lib.hid (And.intro hx4 (And.intro hO4 hB4));clear hx4 hO4 hB4 hx3 hO3 hG3 hG4 hB3 e5 dY;go_wp2;go_end0;exact ⟨rfl,HF.out.2.2,p3,k3,l++[c.b],Lib.hid (by rw [hout]),by rw [hlen,hnx,hrf];exact HF.out.1,by rw [hlen];exact HF.out.2.1⟩
  by_cases a3:c.act=3
  ·have hnx:c.next=0:=by unfold Ce.next;rw [if_pos a3]
   have hrf:c.refuses=true:=decide_eq_true a3;have hout:c.out b=[]:=by unfold Ce.out;rw [if_neg a0,if_neg a2]
   have e0:W2.cell? ⟨xb,0,none⟩=some (.int .i64 c.tgt):=by rw [hx2.cell?];rfl
   have e1:W2.cell? ⟨xb,1,none⟩=some (.bool false):=by rw [hx2.cell?];rfl
   have f0:=hx2.frozen 0;have f1:=hx2.frozen 1;have hx4:Row oV ((W2.setCell ⟨xb,0,none⟩ (.int .i64 0)).setCell ⟨xb,1,none⟩ (.bool true)) xb 128 (GY 0 true (dB pc N.cls.length kc) (dB (some ⟨rb,ro,none⟩) N.rows.length kr) (dB pe N.ends.length ke) (dB po l.length ko)):=(hx2.set 0 (oi 0)).set 1 (ob true);have hO4:Mem.Own aV ((W2.setCell ⟨xb,0,none⟩ (.int .i64 0)).setCell ⟨xb,1,none⟩ (.bool true)) (xb+1) 5 (.slice po l.length ko) l:=hO2.dW (iQ (iQ (aY (ak _ _) (some xb)) 0 _) 1 _) (fun g hg e=>by injection e with e;have:=(hO2.lt g hg).1;omega);have hB4:Below w0.heap.size w0 ((W2.setCell ⟨xb,0,none⟩ (.int .i64 0)).setCell ⟨xb,1,none⟩ (.bool true)):=aM (aM hB2 0 hxb _) 1 hxb _;have HF:=Lib.hid (And.intro hx4 (And.intro hO4 hB4));clear hx4 hO4 hB4 hx2 hO2 hB2;go_wp2;go_end0;exact ⟨rfl,HF.out.2.2,po,ko,l,Lib.hid (by rw [hout,D8]),by rw [hnx,hrf];exact HF.out.1,HF.out.2.1⟩
  ·have hnx:c.next=c.tgt:=by unfold Ce.next;rw [if_neg a3]
   have hrf:c.refuses=false:=decide_eq_false a3;have hout:c.out b=[]:=by unfold Ce.out;rw [if_neg a0,if_neg a2]
   go_wp2;go_end0;exact ⟨rfl,hB2,po,ko,l,Lib.hid (by rw [hout,D8]),by rw [hnx,hrf];exact hx2,hO2⟩
theorem abG (w:World) (xb:Nat) (a:Int) (vc vr ve vo:OC) (b:Value) (hx:Row oV w xb 128 (GY a true vc vr ve vo)):
  Calls Tryz.prog 48 #[.pointer (some ⟨xb,0,none⟩),b] w fun e w'=>e= .returned (.tuple #[])∧w'=w:=by
 have c1:w.cell? ⟨xb,1,none⟩=some (.bool true):=by rw [hx.cell?];rfl
 clear hx;go_enter Tryz.func48,Tryz.ntmps48;go_wp2;exact bodyPost_ret (v:= .tuple #[]) (by simp [results,Tryz.results48,go_sem]) rfl ⟨rfl,rfl⟩
theorem acG {α:Type} {f:α→Value} {P:Program} {ops:Array Oper} {o:Oper} {a:Act} {w:World} {K:Act→World→Prop} {Q:Exit→Act→World→Prop} {Z:Prop} {ty t:TypeId} {l l':List α} (T:bR P ty l'.length) (x y:Operand) (hw:Region.wanted o (yielded ops a.tmps)=true) (ho:o.op= .store ty x y) (hd:o.dst=none) (b:Nat) (hx:a.eval x= .pointer (some ⟨b,0,none⟩))
  {C:Array Value} (hC:C=(l'.map f).toArray) (hy:a.eval y= .agg C) (h:Row f w b t l) (hl:l'.length=l.length) (h1:∀x,(f x).oneCell'=true)
  (hk:∀w',Row f w' b t l'→w.grownBy w' (some b)→K a w'):if Region.wanted o (yielded ops a.tmps)=true then Oper.wp P o a w K Q else Z:=by
 subst hC;obtain ⟨w',hr,h2,h3,h4⟩:=mY T h hl h1;rw [if_pos hw];unfold Oper.wp execOp;simp only [ho,hx,hy,Instr.storeAt,Instr.sureAddr,dS,iE,fK,hr];show K (a.put o.dst undef) w';rw [hd];exact hk w' h2 h3
structure sS where
 pos:Int
 ref:Bool
 out:List UInt8
def NZ.step (N:NZ) (s:sS) (b:UInt8):sS:=if s.ref then s else ⟨(N.cell s.pos.toNat b).next,(N.cell s.pos.toNat b).refuses,s.out++(N.cell s.pos.toNat b).out b⟩
def NZ.run (N:NZ) (s:sS) (bs:List UInt8):sS:=bs.foldl N.step s
theorem YG (N:NZ) (s:sS) (bs:List UInt8) (k:Nat) (h:k<bs.length):N.run s (bs.take (k+1))=N.step (N.run s (bs.take k)) bs[k]:=by
 unfold NZ.run;rw [Av h,Rl];rfl
theorem H9 (c:Ce) (b:UInt8):(c.out b).length≤1:=by unfold Ce.out;split<;>(try split)<;>simp
theorem M6 (N:NZ) (s:sS) (b:UInt8):(N.step s b).out.length≤s.out.length+1:=by
 unfold NZ.step;split
 ·omega
 ·have:=H9 (N.cell s.pos.toNat b) b;simp;omega
theorem ZY (N:NZ) (bs:List UInt8):∀s,(N.run s bs).out.length≤s.out.length+bs.length:=by
 induction bs with
 | nil=>intro s;exact af _
 | cons b bs ih=>
  intro s;have h1:=ih (N.step s b);have h2:=M6 N s b;show (N.run (N.step s b) bs).out.length≤_;rw [mO];omega
theorem Ik {N:NZ} (hv:N.valid=true) (k:Nat) (hk:k<N.rows.length):N.rows[k].length=N.cls.length:=(((fZ N).1 hv).2.2.2.2 _ (oO hk)).1
theorem VW {N:NZ} (hv:N.valid=true) (gH:N.zx) (k:Nat) (hk:k<N.rows.length) (b:UInt8):N.cell k b∈N.rows[k]:=by
 obtain ⟨i,hil,hi⟩:=gH b;have hl:=Ik hv k hk;unfold NZ.cell;rw [hi,bK hk];show (N.rows[k][(i:Int).toNat]?).getD _∈_;rw [show (i:Int).toNat=i by simp,bK (by omega)];exact oO _
theorem abS {N:NZ} (hv:N.valid=true) (gH:N.zx) (k:Nat) (hk:k<N.rows.length) (b:UInt8):0≤(N.cell k b).next∧(N.cell k b).next<(N.rows.length:Int):=by
 have hb:=(((fZ N).1 hv).2.2.2.2 _ (oO hk)).2;rw [Xy] at hb;have h:=hb _ (VW hv gH k hk b);have h2:¬((N.cell k b).tgt<0∨(N.rows.length:Int)≤(N.cell k b).tgt∨(N.cell k b).act<0∨3<(N.cell k b).act∨(N.cell k b).act≠2∧((N.cell k b).b.toNat:Int)≠0):=fun hh=>h (decide_eq_true hh);unfold Ce.next;split<;>omega
theorem step_pos {N:NZ} (hv:N.valid=true) (gH:N.zx) (s:sS) (h:0≤s.pos∧s.pos<(N.rows.length:Int)) (b:UInt8):0≤(N.step s b).pos∧(N.step s b).pos<(N.rows.length:Int):=by
 unfold NZ.step;split
 ·exact h
 ·exact abS hv gH _ (by omega) b
theorem I8:bR Tryz.prog 48 2:=⟨fun _=>by kernel_rfl,fun _=>by kernel_rfl⟩
theorem acd (w:World) (N:NZ) (pc pr pe pu:Option Addr) (kc kr ke ku:Nat) (at_:Int) (r:Bool) (bs:List UInt8) (hv:ng w (.agg #[.slice pc N.cls.length kc, .slice pr N.rows.length kr, .slice pe N.ends.length ke]) N) (hu:Rd aV w (.slice pu bs.length ku) bs) (hbs:bs.length≤140737488351232) (gH:N.valid=true→N.zx):
  Calls Tryz.prog 13 #[.agg #[.slice pc N.cls.length kc, .slice pr N.rows.length kr, .slice pe N.ends.length ke], .agg #[.int .i64 at_, .bool r], .slice pu bs.length ku] w fun e w'=>Below w.heap.size w w'∧
   ((N.lZ at_=false∧e= .returned (.tuple #[.agg #[.int .i64 0, .bool false], .slice none 0 0]))∨
   (N.lZ at_=true∧∃s,Hid (s=N.run ⟨mh r at_,r,[]⟩ bs)∧∃po ko,e= .returned (.tuple #[.agg #[.int .i64 s.pos, .bool s.ref], .slice po s.out.length ko])∧Mem.Own aV w' w.heap.size 5 (.slice po s.out.length ko) s.out)):=by
 have HV:=Lib.hid hv;have HU:=Lib.hid hu;clear hv hu;go_enter Tryz.func13,Tryz.ntmps13;go_upto_region 1 with (fail)
 obtain ⟨W,hW,hB,hs,g0,g1,g2⟩:∃W,(((w.alloc (.cells #[.slice pc N.cls.length kc, .slice pr N.rows.length kr, .slice pe N.ends.length ke] 37)).alloc (.cells #[.int .i64 at_, .bool r] 48)).alloc (.cells #[.int .i64 0, .bool false] 48))=W∧Below w.heap.size w W∧w.heap.size+3≤W.heap.size∧W.heap[w.heap.size]?=some (.cells #[.slice pc N.cls.length kc, .slice pr N.rows.length kr, .slice pe N.ends.length ke] 37 (0,0))∧W.heap[w.heap.size+1]?=some (.cells #[.int .i64 at_, .bool r] 48 (0,0))∧W.heap[w.heap.size+1+1]?=some (.cells #[.int .i64 0, .bool false] 48 (0,0)):=by
  refine ⟨_,rfl,ah (ah (ah (ak _ _) (af _) _) (af _) _) (af _) _,by simp,?_,?_,?_⟩
  all_goals repeat (first | (refine dA _ _ _ ?_;(simp;done)) | (refine (o5 _ _ _ ?_).trans ?_;·(simp<;>omega)))
 rw [hW];clear hW;have rz:Row oV W (w.heap.size+1+1) 48 [oi 0,ob false]:=g2;have c0:W.cell? ⟨w.heap.size,0,none⟩=some (.slice pc N.cls.length kc):=by unfold World.cell?;rw [g0];rfl
 have c1:W.cell? ⟨w.heap.size,1,none⟩=some (.slice pr N.rows.length kr):=by unfold World.cell?;rw [g0];rfl
 have c2:W.cell? ⟨w.heap.size,2,none⟩=some (.slice pe N.ends.length ke):=by unfold World.cell?;rw [g0];rfl
 have s0:W.cell? ⟨w.heap.size+1,0,none⟩=some (.int .i64 at_):=by unfold World.cell?;rw [g1];rfl
 have s1:W.cell? ⟨w.heap.size+1,1,none⟩=some (.bool r):=by unfold World.cell?;rw [g1];rfl
 clear g0 g1 g2;go_wp2_with fail;refine (aaW W N pc pr pe kc kr ke at_ r (HV.out.below hB)).mono ?_;rintro e W1 ⟨hB1,⟨hno,rfl⟩ | ⟨hok,xb,rfl,hxb,hx⟩⟩
 ·have rz1:=rz.below hB1 rz.lt;have hBw:=hB.trans (hB1.mono hB.size);have Kq:=Lib.hid hno;clear hno c0 c1 c2 s0 s1 rz hB1 hB
  go_wp2_with (first
   | ((with_reducible refine zS (l':=[oi 0,ob false]) rz1 I8 ?_);(intro W2 hs2 hG2 hz2)))
  refine bodyPost_ret (v:= .tuple #[.agg #[.int .i64 0, .bool false], .slice none 0 0]) (bD (f:=oV) (l:=[oi 0,ob false]) (t:=7) rfl _ I8 (w.heap.size+1+1) 0 rfl hs2.at) rfl ?_;exact ⟨hBw.grown hG2 hBw.size (fun k e=>by cases e;omega), .inl ⟨Kq.out,rfl⟩⟩
 ·have hval:N.valid=true:=by unfold NZ.lZ at hok;rw [cB] at hok;exact hok.1
  have hat:0≤at_∧at_<(N.rows.length:Int):=by unfold NZ.lZ at hok;rw [cB] at hok;exact of_decide_eq_true hok.2
  have jq:=Lib.hid (And.intro hok (And.intro hval hat));have hl1:=hx.lt;clear hok hval hat c0 c1 c2 s0 s1;have HZ:=Lib.hid rz;clear rz;have HW:=Lib.hid (HV.out.below hB);have HB:=Lib.hid (And.intro hB hs);have h00:0≤mh r at_∧mh r at_<(N.rows.length:Int):=by have:=jq.out.2.2;unfold mh;split<;>omega
  have Qg:Hid (Rd aV W (.slice pu bs.length ku) bs):=Lib.hid (HU.out.below hB);go_wp2_with fail
  go_loopw [23] (fun i wr=>∃(k:Nat) (s:sS) (po:Option Addr) (ko:Nat),k≤bs.length∧i= .int .i64 k∧Hid (s=N.run ⟨mh r at_,r,[]⟩ (bs.take k))∧(0≤s.pos∧s.pos<(N.rows.length:Int))∧Row oV wr xb 128 (GY s.pos s.ref (dB pc N.cls.length kc) (dB pr N.rows.length kr) (dB pe N.ends.length ke) (dB po s.out.length ko))∧Mem.Own aV wr (xb+1) 5 (.slice po s.out.length ko) s.out∧Below W.heap.size W wr) (fun i _=>bs.length - (intOf i).toNat)
  case atStart=>exact ⟨0,⟨mh r at_,r,[]⟩,none,0,by omega,rfl,Lib.hid rfl,h00,hx,Own.nil _ _ _,hB1⟩
  case round=>
   clear hx hB1 hl1 hB hs h00;obtain ⟨k,s,po,ko,hk,rfl,hs,hpos,hx,hO,hX⟩:=hrel;have HP:=Lib.hid hpos;have sV:=Lib.hid (And.intro hx hO);have lx:=hx.lt;clear hpos hx hO;by_cases hlt:k<bs.length
   ·obtain ⟨bu,ou,rfl,hA,lbu⟩:∃b o,pu=some ⟨b,o,none⟩∧At aV W b o bs∧b<W.heap.size:=by
     rcases Qg.out with ⟨_,_,h0⟩ | ⟨b,o,cap,h1,_,ha,hl⟩
     ·rw [h0] at hlt;simp at hlt
     ·cases h1;exact ⟨b,o,rfl,ha,hl⟩
    have cb:wr.cell? ⟨bu,ou+k,none⟩=some (.int .u8 (bs[k].toNat:Int)):=((hX.cell (p:=⟨bu,ou+k,none⟩) lbu).trans (hA k hlt)).trans (by rw [bK hlt];rfl);have hq:(k:Int)<(bs.length:Int):=by omega
    clear hA;go_wp2_with fail;have hrun:=YG N ⟨mh r at_,r,[]⟩ bs k hlt;rw [← hs.out] at hrun;have adW:=Lib.hid hrun;clear hrun cb;cases hr:s.ref with
    | true=>
     have hx:=sV.out.1;rw [hr] at hx;refine (abG wr xb s.pos _ _ _ _ _ hx).mono ?_;rintro e w2 ⟨rfl,rfl⟩;have hst:N.step s bs[k]=s:=by unfold NZ.step;rw [if_pos hr]
     go_wp2_with fail
     go_roundw
     case rel=>exact ⟨k+1,s,po,ko,by omega,by go_num,Lib.hid (by rw [adW.out,hst]),HP.out,sV.out.1,sV.out.2,hX⟩
     case measure=>simp [intOf];omega
    | false=>
     obtain ⟨n,hn⟩:∃n:Nat,s.pos=(n:Int):=⟨s.pos.toNat,by have:=HP.out;omega⟩
     have hnl:n<N.rows.length:=by have:=HP.out;omega
     have hx:=sV.out.1;rw [hr,hn] at hx;have hcl:N.cls.length≤256:=((fZ N).1 jq.out.2.1).1.1
     have hol:s.out.length≤140737488351232:=by
      rw [hs.out];have:=ZY N (bs.take k) ⟨mh r at_,r,[]⟩;rw [OL] at this;have h0:(⟨mh r at_,r,[]⟩:sS).out.length=0:=rfl;omega
     refine (acv W wr N xb n pc pr pe po kc kr ke ko s.out bs[k] HW.out hX hxb hx sV.out.2 hnl (gH jq.out.2.1) (Ik jq.out.2.1 n hnl) hcl hol).mono ?_;rintro e w2 ⟨rfl,hX2,po2,ko2,l2,hl2,hx2,hO2⟩
     have hst:N.step s bs[k]=⟨(N.cell n bs[k]).next,(N.cell n bs[k]).refuses,l2⟩:=by
      unfold NZ.step;rw [if_neg (by rw [hr];decide),hn,hl2.out];rfl
     have hp2:=step_pos jq.out.2.1 (gH jq.out.2.1) s HP.out bs[k];rw [hst] at hp2;have HF:=Lib.hid (And.intro hx2 (And.intro hO2 (And.intro hX2 hp2)));clear hx2 hO2 hX2 hp2 hx;go_wp2_with fail
     go_roundw
     case rel=>exact ⟨k+1,⟨(N.cell n bs[k]).next,(N.cell n bs[k]).refuses,l2⟩,po2,ko2,by omega,by go_num,Lib.hid (by rw [adW.out,hst]),HF.out.2.2.2,HF.out.1,HF.out.2.1,HF.out.2.2.1⟩
     case measure=>simp [intOf];omega
   ·have hke:k=bs.length:=by omega
    have hs':Hid (s=N.run ⟨mh r at_,r,[]⟩ bs):=Lib.hid (by rw [hs.out,pM (by omega)]);have hq:¬(k:Int)<(bs.length:Int):=by omega
    go_upto_region 9 with (fail);have rz1:Row oV wr (w.heap.size+1+1) 48 [oi 0,ob false]:=HZ.out.below hX HZ.out.lt
    have hq0:At oV wr xb 0 [oi s.pos,ob s.ref]∧wr.cell? ⟨xb,5,none⟩=some (.slice po s.out.length ko):=by
     have h:=sV.out.1;refine ⟨fun i hi=> ?_,by rw [h.cell?];rfl⟩;rcases (by simp at hi;omega:i=0∨i=1) with rfl | rfl<;>(rw [h.cell?];rfl)
    refine wp_region_held_drew (S:=fun X=>At oV X xb 0 [oi s.pos,ob s.ref]∧X.cell? ⟨xb,5,none⟩=some (.slice po s.out.length ko)) rfl hq0 fun hS=> ?_;refine nD 0 31 (.pointer (some ⟨xb,0,none⟩)) hS ?_;refine nD 1 32 (.pointer (some ⟨xb,0,none⟩)) hS ?_;refine nD 2 33 (.pointer (some ⟨xb,0,none⟩)) hS ?_;refine nD 3 34 (.agg #[.int .i64 s.pos, .bool s.ref]) hS ?_ rfl (aA (f:=oV) (l:=[oi s.pos,ob s.ref]) I8 (.tmp 33) rfl xb 0 rfl (fun W' h=>h.1) rfl rfl);refine nD 4 35 (.pointer (some ⟨xb,0,none⟩)) hS ?_;refine nD 5 36 (.pointer (some ⟨xb,0,none⟩)) hS ?_;refine nD 6 37 (.pointer (some ⟨xb,5,none⟩)) hS ?_;refine nD 7 38 (.slice po s.out.length ko) hS ?_ rfl (qi fun W' h=>by have q0:=h.2;go_simp);have hBw:Below w.heap.size w wr.drew:=(HB.out.1.trans (hX.mono HB.out.1.size)).drew;have BG:Mem.Own aV wr.drew (xb+1) 5 (.slice po s.out.length ko) s.out:=sV.out.2;have hne:∀g,(Value.slice po s.out.length ko).ownBlock=some g→some g≠some (w.heap.size+1+1):=fun g hg e=>by injection e with e;have h1:=(BG.lt g hg).1;have h2:=HB.out.2;omega
    have hwl:w.heap.size≤xb+1:=by have h2:=HB.out.2;omega
    have hxw:xb≠w.heap.size+1+1:=by have h2:=HB.out.2;omega
    have rz2:=rz1.drew;have lx2:xb<wr.drew.heap.size:=lx;generalize wr.drew=Y at rz2 hBw BG hS lx2 ⊢;refine Ry 8 (fun K' hK=> ?_);refine acG (f:=oV) (l:=[oi 0,ob false]) (l':=[oi s.pos,ob s.ref]) (t:=48) (C:= #[.int .i64 s.pos, .bool s.ref]) I8 (.tmp 6) (.tmp 34) rfl rfl rfl (w.heap.size+1+1) rfl rfl rfl rz2 rfl bC ?_;intro W2 hs2 hG2;replace hS:=And.intro (hS.1.grown hG2 lx2 (by intro e;injection e with e;exact hxw e)) ((o6 (a:=⟨xb,5,none⟩) (hG2.block xb lx2 (by intro e;injection e with e;exact hxw e))).trans hS.2);refine hK.out _ _ hS fun _=> ?_;clear hK;refine nD 9 7 (.slice po s.out.length ko) hS ?_;refine wpAnyH_done (by kernel_rfl) ?_ _;go_wp2;refine bodyPost_ret (v:= .tuple #[.agg #[.int .i64 s.pos, .bool s.ref], .slice po s.out.length ko]) (bD (f:=oV) (l:=[oi s.pos,ob s.ref]) (t:=7) rfl _ I8 (w.heap.size+1+1) 0 rfl hs2.at) rfl ?_;exact ⟨hBw.grown hG2 hBw.size (fun k e=>by cases e;omega), .inr ⟨jq.out.1,s,hs',po,ko,rfl,(BG.dW hG2 hne).mono hwl⟩⟩
def NZ.fin (N:NZ) (at_:Int) (r:Bool):Bool:=N.lZ at_ && (!r && (N.ends[at_.toNat]?.getD false))
theorem QM (w:World) (N:NZ) (pc pr pe:Option Addr) (kc kr ke:Nat) (at_:Int) (r:Bool) (hv:ng w (.agg #[.slice pc N.cls.length kc, .slice pr N.rows.length kr, .slice pe N.ends.length ke]) N):
  Calls Tryz.prog 18 #[.agg #[.slice pc N.cls.length kc, .slice pr N.rows.length kr, .slice pe N.ends.length ke], .agg #[.int .i64 at_, .bool r]] w fun e w'=>e= .returned (.bool (N.fin at_ r))∧Below w.heap.size w w':=by
 have HV:=Lib.hid hv
 have HE:Hid (Rd Value.bool w (.slice pe N.ends.length ke) N.ends):=Lib.hid (by
  obtain ⟨vc,vr,ve,he,h1,h2,h3⟩:=hv
  obtain ⟨rfl,rfl,rfl⟩: .slice pc N.cls.length kc=vc∧ .slice pr N.rows.length kr=vr∧ .slice pe N.ends.length ke=ve:=by
   have:=congrArg (fun v=>match v with | Value.agg a=>a.toList | _=>[]) he
   simpa using this
  exact h3)
 clear hv;go_enter Tryz.func18,Tryz.ntmps18;go_upto_region 1 with (fail)
 obtain ⟨W,hW,hB,hs,g0,g1⟩:∃W,((w.alloc (.cells #[.slice pc N.cls.length kc, .slice pr N.rows.length kr, .slice pe N.ends.length ke] 37)).alloc (.cells #[.int .i64 at_, .bool r] 48))=W∧Below w.heap.size w W∧w.heap.size+2≤W.heap.size∧W.heap[w.heap.size]?=some (.cells #[.slice pc N.cls.length kc, .slice pr N.rows.length kr, .slice pe N.ends.length ke] 37 (0,0))∧W.heap[w.heap.size+1]?=some (.cells #[.int .i64 at_, .bool r] 48 (0,0)):=by
  refine ⟨_,rfl,ah (ah (ak _ _) (af _) _) (af _) _,by simp,?_,?_⟩
  all_goals repeat (first | (refine dA _ _ _ ?_;(simp;done)) | (refine (o5 _ _ _ ?_).trans ?_;·(simp<;>omega)))
 rw [hW];clear hW;have c0:W.cell? ⟨w.heap.size,0,none⟩=some (.slice pc N.cls.length kc):=by unfold World.cell?;rw [g0];rfl
 have c1:W.cell? ⟨w.heap.size,1,none⟩=some (.slice pr N.rows.length kr):=by unfold World.cell?;rw [g0];rfl
 have c2:W.cell? ⟨w.heap.size,2,none⟩=some (.slice pe N.ends.length ke):=by unfold World.cell?;rw [g0];rfl
 have s0:W.cell? ⟨w.heap.size+1,0,none⟩=some (.int .i64 at_):=by unfold World.cell?;rw [g1];rfl
 have s1:W.cell? ⟨w.heap.size+1,1,none⟩=some (.bool r):=by unfold World.cell?;rw [g1];rfl
 clear g0 g1 hs;go_wp2_with fail;refine (aaW W N pc pr pe kc kr ke at_ r (HV.out.below hB)).mono ?_;rintro e W1 ⟨hB1,⟨hno,rfl⟩ | ⟨hok,xb,rfl,hxb,hx⟩⟩
 ·have hf:N.fin at_ r=false:=by unfold NZ.fin;rw [hno];rfl
  have hBw:=hB.trans (hB1.mono hB.size);clear hno;go_wp2;go_ret;exact ⟨by first | rfl | (rw [hf];rfl),hBw⟩
 ·have hval:N.valid=true:=by unfold NZ.lZ at hok;rw [cB] at hok;exact hok.1
  have hat:0≤at_∧at_<(N.rows.length:Int):=by unfold NZ.lZ at hok;rw [cB] at hok;exact of_decide_eq_true hok.2
  have hel:N.ends.length=N.rows.length:=((fZ N).1 hval).1.2.2.2;obtain ⟨k,hk⟩:∃k:Nat,mh r at_=(k:Int):=⟨(mh r at_).toNat,by unfold mh;split<;>omega⟩
  have hkl:k<N.ends.length:=by unfold mh at hk;split at hk<;>omega
  have hf:N.fin at_ r=(!r && N.ends[k]):=by
   unfold NZ.fin;rw [hok,Jq];cases r with
   | true=>rfl
   | false=>
    have:at_=(k:Int):=hk;rw [this];show (true && (N.ends[(k:Int).toNat]?).getD false)=_;rw [show (k:Int).toNat=k by simp,bK hkl];rfl
  have HF:=Lib.hid hf;rw [hk] at hx;have hBw:=hB.trans (hB1.mono hB.size);have hE1:=(HE.out.below hB).below hB1;clear hok hf hval hat hk c0 c1 c2 s0 s1;go_wp2_with fail;refine (TD W1 xb k r _ _ _ pe ke N.ends hx hE1 hkl).mono ?_;rintro e W2 ⟨rfl,hB2⟩;have hBx:=hBw.trans (hB2.mono hBw.size);go_wp2;go_ret;exact ⟨by rw [HF.out];rfl,hBx⟩
def NZ.acc (N:NZ) (bs:List UInt8):Bool:=N.lZ 0 && N.fin (N.run ⟨0,false,[]⟩ bs).pos (N.run ⟨0,false,[]⟩ bs).ref
theorem aes (w:World) (N:NZ) (pc pr pe pu:Option Addr) (kc kr ke ku:Nat) (bs:List UInt8) (hv:ng w (.agg #[.slice pc N.cls.length kc, .slice pr N.rows.length kr, .slice pe N.ends.length ke]) N) (hu:Rd aV w (.slice pu bs.length ku) bs) (hbs:bs.length≤140737488351232) (gH:N.valid=true→N.zx):
  Calls Tryz.prog 19 #[.agg #[.slice pc N.cls.length kc, .slice pr N.rows.length kr, .slice pe N.ends.length ke], .slice pu bs.length ku] w fun e w'=>Below w.heap.size w w'∧
   ((N.acc bs=false∧e= .returned (.tuple #[.slice none 0 0, .bool false]))∨
   (N.acc bs=true∧∃l,Hid (l=(N.run ⟨0,false,[]⟩ bs).out)∧∃po ko,e= .returned (.tuple #[.slice po l.length ko, .bool true])∧Mem.Own aV w' w.heap.size 5 (.slice po l.length ko) l)):=by
 have HV:=Lib.hid hv;have HU:=Lib.hid hu;clear hv hu;go_enter Tryz.func19,Tryz.ntmps19;go_upto_region 1 with (fail)
 obtain ⟨W,hW,hB,hs,g0⟩:∃W,(w.alloc (.cells #[.slice pc N.cls.length kc, .slice pr N.rows.length kr, .slice pe N.ends.length ke] 37))=W∧Below w.heap.size w W∧w.heap.size+1≤W.heap.size∧W.heap[w.heap.size]?=some (.cells #[.slice pc N.cls.length kc, .slice pr N.rows.length kr, .slice pe N.ends.length ke] 37 (0,0)):=
  ⟨_,rfl,ah (ak _ _) (af _) _,by simp,World.alloc_heap_new _ _⟩
 rw [hW];clear hW
 have HC:Hid (∀X,Below W.heap.size W X→X.cell? ⟨w.heap.size,0,none⟩=some (.slice pc N.cls.length kc)∧X.cell? ⟨w.heap.size,1,none⟩=some (.slice pr N.rows.length kr)∧X.cell? ⟨w.heap.size,2,none⟩=some (.slice pe N.ends.length ke)):=Lib.hid fun X hX=>by
  have h:=(hX.block w.heap.size (by omega)).trans g0;refine ⟨?_,?_,?_⟩<;>(unfold World.cell?;rw [h];rfl)
 clear g0;obtain ⟨c0,c1,c2⟩:=HC.out W (ak _ _);go_wp2_with fail;refine (acd W N pc pr pe pu kc kr ke ku 0 false bs (HV.out.below hB) (HU.out.below hB) hbs gH).mono ?_;rintro e W1 ⟨hB1,⟨hno,rfl⟩ | ⟨hok,s,hsr,po,ko,rfl,hO⟩⟩
 ·have hacc:N.acc bs=false:=by unfold NZ.acc;rw [hno];rfl
  have HB:=Lib.hid hB1;have hX1:=hB1.alloc hB1.size (.cells #[.int .i64 0, .bool false] 48);have Kq:=Lib.hid (And.intro hno hacc);clear c0 c1 c2 hno hacc;obtain ⟨c0,c1,c2⟩:=HC.out _ hX1;go_wp2_with fail;refine (QM _ N pc pr pe kc kr ke 0 false (HV.out.below (hB.trans (hX1.mono hB.size)))).mono ?_;rintro e W2 ⟨rfl,hB2⟩;have hf:N.fin 0 false=false:=by unfold NZ.fin;rw [Kq.out.1];rfl
  rw [hf];have hBx:=(hB.trans (hX1.mono hB.size)).trans (hB2.mono (hB.trans (hX1.mono hB.size)).size);clear hf;go_wp2;go_ret2;exact ⟨hBx, .inl ⟨Kq.out.2,rfl⟩⟩
 ·have aaK:s=N.run ⟨0,false,[]⟩ bs:=hsr.out;have hX1:=hB1.alloc hB1.size (.cells #[.int .i64 s.pos, .bool s.ref] 48);have hacc:N.acc bs=N.fin s.pos s.ref:=by unfold NZ.acc;rw [hok,← aaK];rfl
  have HA:=Lib.hid (And.intro hacc aaK);have HO:=Lib.hid (hO.alloc (.cells #[.int .i64 s.pos, .bool s.ref] 48));clear c0 c1 c2 hok hacc hsr aaK hO;obtain ⟨c0,c1,c2⟩:=HC.out _ hX1;go_wp2_with fail;refine (QM _ N pc pr pe kc kr ke s.pos s.ref (HV.out.below (hB.trans (hX1.mono hB.size)))).mono ?_;rintro e W2 ⟨rfl,hB2⟩;have hBx:=(hB.trans (hX1.mono hB.size)).trans (hB2.mono (hB.trans (hX1.mono hB.size)).size);have HO2:=Lib.hid ((HO.out.below' hB2).mono hB.size);cases hf:N.fin s.pos s.ref with
  | false=>
   have hacc:=HA.out.1.trans hf;have HAC:=Lib.hid hacc;clear hacc hf;go_wp2;go_ret2;exact ⟨hBx, .inl ⟨HAC.out,rfl⟩⟩
  | true=>
   have hacc:=HA.out.1.trans hf;have HAC:=Lib.hid hacc;clear hacc hf;go_wp2;go_ret2;exact ⟨hBx, .inr ⟨HAC.out,s.out,Lib.hid (by rw [HA.out.2]),po,ko,rfl,HO2.out⟩⟩
theorem adk (w:World) (N:NZ) (pc pr pe pu:Option Addr) (kc kr ke ku:Nat) (bs:List UInt8) (hv:ng w (.agg #[.slice pc N.cls.length kc, .slice pr N.rows.length kr, .slice pe N.ends.length ke]) N) (hu:Rd aV w (.slice pu bs.length ku) bs) (hbs:bs.length≤140737488351232) (gH:N.zx):
  Calls Tryz.prog 19 #[.agg #[.slice pc N.cls.length kc, .slice pr N.rows.length kr, .slice pe N.ends.length ke], .slice pu bs.length ku] w fun e w'=>Below w.heap.size w w'∧
   ((N.acc bs=false∧e= .returned (.tuple #[.slice none 0 0, .bool false]))∨
   (N.acc bs=true∧∃l,Hid (l=(N.run ⟨0,false,[]⟩ bs).out)∧∃po ko,e= .returned (.tuple #[.slice po l.length ko, .bool true])∧Mem.Own aV w' w.heap.size 5 (.slice po l.length ko) l)):=
 aes w N pc pr pe pu kc kr ke ku bs hv hu hbs fun _=>gH
theorem YX (x:UInt64) (r:Nat):((X x / 2 ^ r) % 2==1)=x.toNat.testBit r:=by
 unfold X;rw [Nat.testBit_eq_decide_div_mod_eq];have h:(x.toNat:Int) / 2 ^ r % 2=((x.toNat / 2 ^ r % 2:Nat):Int):=by simp
 rw [h,Dr];simp;omega
theorem abX (w:World) (c:Cl) (b:UInt8):Calls Tryz.prog 77 #[.agg (au c), .int .u8 (b.toNat:Int)] w fun e w'=>e= .returned (.bool (c.mem b.toNat))∧Below w.heap.size w w':=by
 obtain ⟨q,r,hq,hr,hn⟩:∃q r,q<4∧r<64∧b.toNat=64 * q+r:=⟨b.toNat / 64,b.toNat % 64,by have:=b.toNat_lt;omega,by omega,by omega⟩
 have hh:c.mem b.toNat=(c.w q).toNat.testBit r:=by rw [hn];exact c.y8 q r hr
 rw [hh];have hrow:Row oV (w.alloc (.cells (au c) 65)) w.heap.size 65 (aG c):=Row.new _ _ rfl;have hB:Below w.heap.size w (w.alloc (.cells (au c) 65)):=(ak _ _).alloc (af _) _;have hc:(w.alloc (.cells (au c) 65)).cell? ⟨w.heap.size,q,none⟩=some (.int .u64 (X (c.w q))):=by rw [hrow.cell?,xU c q hq];rfl
 have d1:((b.toNat:Int)).tdiv 64=(q:Int):=by rw [hn,WK (by omega)];omega
 have d2:((b.toNat:Int)).tmod 64=(r:Int):=by rw [hn,Lp (by omega)];omega
 have d3:(b.toNat:Int) / 64=(q:Int):=by omega
 have d4:(b.toNat:Int) % 64=(r:Int):=by omega
 have x0:=fH (c.w q>>>UInt64.ofNat r);have x1:=uI (c.w q) r hr;have x2:(X (c.w q>>>UInt64.ofNat r)).tmod 2=X (c.w q>>>UInt64.ofNat r) % 2:=Lp x0;clear hn hrow hh;go_enter Tryz.func77,Tryz.ntmps77;go_upto_region 1 with (fail);generalize (w.alloc (.cells (au c) 65))=W at hB hc ⊢;have hq':(q:Int)<4:=by omega
 go_wp2_with fail;go_ret;exact ⟨by rw [← YX,x1];rfl,hB⟩
theorem OA (w:World) (c:Cl) (b:UInt8):Calls Tryz.prog 76 #[.agg (au c), .int .u8 (b.toNat:Int)] w fun e w'=>e= .returned (.agg (au (c.add b.toNat)))∧Below w.heap.size w w':=by
 obtain ⟨q,r,hq,hr,hn⟩:∃q r,q<4∧r<64∧b.toNat=64 * q+r:=⟨b.toNat / 64,b.toNat % 64,by have:=b.toNat_lt;omega,by omega,by omega⟩
 have hh:c.add b.toNat=c.setW q (c.w q ||| ((1:UInt64)<<<UInt64.ofNat r)):=by
  unfold Cl.add;rw [show b.toNat / 64=q by omega,show b.toNat % 64=r by omega]
 rw [hh]
 have hset:(aG c).set q (ow (X (c.w q ||| ((1:UInt64)<<<UInt64.ofNat r))))=aG (c.setW q (c.w q ||| ((1:UInt64)<<<UInt64.ofNat r))):=by
  rcases (by omega:q=0∨q=1∨q=2∨q=3) with rfl | rfl | rfl | rfl<;>rfl
 have d1:((b.toNat:Int)).tdiv 64=(q:Int):=by rw [hn,WK (by omega)];omega
 have d2:((b.toNat:Int)).tmod 64=(r:Int):=by rw [hn,Lp (by omega)];omega
 have d3:(b.toNat:Int) / 64=(q:Int):=by omega
 have d4:(b.toNat:Int) % 64=(r:Int):=by omega
 have x1:=KD r hr;have x2:=Jh (c.w q) ((1:UInt64)<<<UInt64.ofNat r);have hq':(q:Int)<4:=by omega
 clear hn hh;go_enter Tryz.func76,Tryz.ntmps76;go_upto_region 1 with (fail)
 obtain ⟨W,hW,hB,hs,r2,r4⟩:∃W,((w.alloc (.cells (au c) 65)).alloc (.cells #[.int .u64 0, .int .u64 0, .int .u64 0, .int .u64 0] 65))=W∧Below w.heap.size w W∧w.heap.size+2≤W.heap.size∧Row oV W w.heap.size 65 (aG c)∧Row oV W (w.heap.size+1) 65 [ow 0,ow 0,ow 0,ow 0]:=by
  refine ⟨_,rfl,ah (ah (ak _ _) (af _) _) (af _) _,by simp,?_,?_⟩
  all_goals repeat (first | (refine dA _ _ _ ?_;(simp;done)) | (refine (o5 _ _ _ ?_).trans ?_;·(simp<;>omega)))
 rw [hW];clear hW;have hc:W.cell? ⟨w.heap.size,q,none⟩=some (.int .u64 (X (c.w q))):=by rw [r2.cell?,xU c q hq];rfl
 have f2:=r2.frozen q;go_upto_region 3 with (fail);generalize hv:(c.w q ||| ((1:UInt64)<<<UInt64.ofNat r))=v at *;have hB2:=aM hB (b:=w.heap.size) q (af _) (.int .u64 (X v))
 have s2:Row oV (W.setCell ⟨w.heap.size,q,none⟩ (.int .u64 (X v))) w.heap.size 65 (aG (c.setW q v)):=by
  rw [← hset];exact r2.set q (ow (X v))
 have s4:=r4.ai (b':=w.heap.size) (by omega) q (.int .u64 (X v));generalize (W.setCell ⟨w.heap.size,q,none⟩ (.int .u64 (X v)))=W2 at *
 go_wp2_with (first
  | ((with_reducible refine zL s2.at ay rfl (C:=au (c.setW q v)) ?_))
  | ((with_reducible refine zS (l':=aG (c.setW q v)) s4 ay ?_);(intro W6 hs6 di fO)))
 refine bodyPost_ret (aQ (f:=oV) (l:=aG (c.setW q v)) rfl _ ay (w.heap.size+1) 0 rfl hs6.at) rfl ?_;exact ⟨by rw [hv];rfl,hB2.grown di hB2.size (fun k e=>by cases e;omega)⟩
def Cl.NJ (a:Cl):Cl:=dV (fun i=> !a.mem i) 256
theorem Za (w:World) (a:Cl):Calls Tryz.prog 39 #[.agg (au a)] w fun e w'=>e= .returned (.agg (au (a.NJ)))∧Below w.heap.size w w':=by
 go_enter Tryz.func39,Tryz.ntmps39;go_upto_region 1 with (fail)
 obtain ⟨W,hW,hB,hs,r0,r1⟩:∃W,((w.alloc (.cells (au a) 65)).alloc (.cells #[.int .u64 0, .int .u64 0, .int .u64 0, .int .u64 0] 65))=W∧Below w.heap.size w W∧w.heap.size+2≤W.heap.size∧Row oV W (w.heap.size) 65 (aG a)∧Row oV W (w.heap.size+1) 65 [ow 0,ow 0,ow 0,ow 0]:=by
  refine ⟨_,rfl,(ah (ah (ak _ _) (af _) _) (af _) _),by simp,?_,?_⟩
  all_goals repeat (first | (refine dA _ _ _ ?_;(simp;done)) | (refine (o5 _ _ _ ?_).trans ?_;·(simp<;>omega)))
 rw [hW];clear hW;have hz:Row oV (W.alloc (.cells #[.int .u64 0, .int .u64 0, .int .u64 0, .int .u64 0] 65)) W.heap.size 65 [ow 0,ow 0,ow 0,ow 0]:=Row.new _ _ rfl;go_upto_region 2 with (((with_reducible refine zS (l':=[ow 0,ow 0,ow 0,ow 0]) hz ay ?_);(intro W1 hs1 hG1 hz1)));have hb1:=jT (ak W.heap.size W) hG1;replace r0:=r0.below hb1 r0.lt;replace r1:=r1.below hb1 r1.lt;replace hB:=hB.trans (hb1.mono hB.size);have hlc:w.heap.size+1<W.heap.size∧w.heap.size≤W.heap.size:=by omega
 generalize hcb:W.heap.size=cb at *;clear hs hz hG1 hz1 hb1 hcb W;have HP:∃p:Nat→Bool,Hid (p=fun i=> !a.mem i):=⟨_,Lib.hid rfl⟩
 obtain ⟨p,HP⟩:=HP;go_upto_region 3 with (fail)
 go_loopw [4] (fun i wr=>∃(k:Nat),k≤256∧i= .int .i64 k∧Row oV wr cb 65 (aG (dV p k))∧Below cb W1 wr) (fun i _=>256 - (intOf i).toNat)
 case atStart=>exact ⟨0,by omega,rfl,hs1,ak _ _⟩
 case round=>
  obtain ⟨k,hk,rfl,hR,hb⟩:=hrel;replace r0:=r0.below hb (by omega);replace r1:=r1.below hb (by omega);replace hB:=hB.trans (hb.mono (by omega));have hcw:=hs1.lt;by_cases hlt:k<256
  ·have hq:(k:Int)<256:=by omega
   have hbk:(UInt8.ofNat k).toNat=k:=by simp;omega
   have hw8:IntKind.u8.wrap (k:Int)=(k:Int):=by rw [Im];omega
   have Xj:=Lib.hid (xK p k);have hpk:Hid (p k= !a.mem k):=Lib.hid (by rw [HP.out]);clear hs1;go_wp2_with ((with_reducible refine zL r0.at ay rfl (C:=au a) ?_));have hc:=abX wr a (UInt8.ofNat k);rw [hbk] at hc;refine hc.mono ?_;clear hc;rintro e w3 ⟨rfl,hb3⟩;replace hb:=hb.trans (hb3.mono (Dl hR.lt));replace hR:=hR.below hb3 hR.lt;replace r0:=r0.below hb3 r0.lt;replace r1:=r1.below hb3 r1.lt;clear hb3;cases hm:a.mem k with
   | true=>
    have hpt:Hid (p k=false):=Lib.hid (by rw [hpk.out,hm];rfl);have hF:dV p (k+1)=dV p k:=by rw [Xj.out,if_neg (by rw [hpt.out];decide)]
    replace hF:=Lib.hid hF;go_wp2_with fail
    go_roundw
    case rel=>exact ⟨k+1,by omega,by go_num,by rw [hF.out];exact hR,hb⟩
    case measure=>simp [intOf];omega
   | false=>
    have hpt:Hid (p k=true):=Lib.hid (by rw [hpk.out,hm];rfl);go_wp2_with ((with_reducible refine zL hR.at ay rfl (C:=au (dV p k)) ?_));have hc:=OA w3 (dV p k) (UInt8.ofNat k);rw [hbk] at hc;refine hc.mono ?_;clear hc;rintro e w5 ⟨rfl,hb5⟩;replace hb:=hb.trans (hb5.mono (Dl hR.lt));replace hR:=hR.below hb5 hR.lt;have hF:(dV p k).add k=dV p (k+1):=by rw [Xj.out,if_pos hpt.out]
    rw [hF];clear hF;go_wp2_with (((with_reducible refine zS (l':=aG (dV p (k+1))) hR ay ?_);(intro w6 hs6 di fO)))
    go_roundw
    case rel=>exact ⟨k+1,by omega,by go_num,hs6,hb.grown di (Dl hR.lt) (fun j e=>by cases e;exact af _)⟩
    case measure=>simp [intOf];omega
  ·have he:k=256:=by omega
   subst he;have hF:dV p 256=a.NJ:=by rw [HP.out];rfl
   rw [hF] at hR;clear hF;generalize hv:a.NJ=v at *
   go_wp2_with (first
    | ((with_reducible refine zL hR.at ay rfl (C:=au v) ?_))
    | ((with_reducible refine zS (l':=aG v) r1 ay ?_);(intro W6 hs6 di fO)))
   refine bodyPost_ret (aQ (f:=oV) (l:=aG v) rfl _ ay (w.heap.size+1) 0 rfl hs6.at) rfl ?_;exact ⟨by rw [hv];rfl,hB.grown di hB.size (fun j e=>by cases e;omega)⟩
theorem Vd (w:World) (a:Cl) (b:Cl):Calls Tryz.prog 40 #[.agg (au a), .agg (au b)] w fun e w'=>e= .returned (.agg (au (a.union b)))∧Below w.heap.size w w':=by
 go_enter Tryz.func40,Tryz.ntmps40;go_upto_region 1 with (fail)
 obtain ⟨W,hW,hB,hs,r0,r1,r2⟩:∃W,(((w.alloc (.cells (au a) 65)).alloc (.cells (au b) 65)).alloc (.cells #[.int .u64 0, .int .u64 0, .int .u64 0, .int .u64 0] 65))=W∧Below w.heap.size w W∧w.heap.size+3≤W.heap.size∧Row oV W (w.heap.size) 65 (aG a)∧Row oV W (w.heap.size+1) 65 (aG b)∧Row oV W (w.heap.size+1+1) 65 [ow 0,ow 0,ow 0,ow 0]:=by
  refine ⟨_,rfl,(ah (ah (ah (ak _ _) (af _) _) (af _) _) (af _) _),by simp,?_,?_,?_⟩
  all_goals repeat (first | (refine dA _ _ _ ?_;(simp;done)) | (refine (o5 _ _ _ ?_).trans ?_;·(simp<;>omega)))
 rw [hW];clear hW;have hz:Row oV (W.alloc (.cells #[.int .u64 0, .int .u64 0, .int .u64 0, .int .u64 0] 65)) W.heap.size 65 [ow 0,ow 0,ow 0,ow 0]:=Row.new _ _ rfl;go_upto_region 2 with (((with_reducible refine zS (l':=[ow 0,ow 0,ow 0,ow 0]) hz ay ?_);(intro W1 hs1 hG1 hz1)));have hb1:=jT (ak W.heap.size W) hG1;replace r0:=r0.below hb1 r0.lt;replace r1:=r1.below hb1 r1.lt;replace r2:=r2.below hb1 r2.lt;replace hB:=hB.trans (hb1.mono hB.size);have hlc:w.heap.size+1+1<W.heap.size∧w.heap.size≤W.heap.size:=by omega
 generalize hcb:W.heap.size=cb at *;clear hs hz hG1 hz1 hb1 hcb W;have HP:∃p:Nat→Bool,Hid (p=fun i=>a.mem i || b.mem i):=⟨_,Lib.hid rfl⟩
 obtain ⟨p,HP⟩:=HP;go_upto_region 3 with (fail)
 go_loopw [6] (fun i wr=>∃(k:Nat),k≤256∧i= .int .i64 k∧Row oV wr cb 65 (aG (dV p k))∧Below cb W1 wr) (fun i _=>256 - (intOf i).toNat)
 case atStart=>exact ⟨0,by omega,rfl,hs1,ak _ _⟩
 case round=>
  obtain ⟨k,hk,rfl,hR,hb⟩:=hrel;replace r0:=r0.below hb (by omega);replace r1:=r1.below hb (by omega);replace r2:=r2.below hb (by omega);replace hB:=hB.trans (hb.mono (by omega));have hcw:=hs1.lt;by_cases hlt:k<256
  ·have hq:(k:Int)<256:=by omega
   have hbk:(UInt8.ofNat k).toNat=k:=by simp;omega
   have hw8:IntKind.u8.wrap (k:Int)=(k:Int):=by rw [Im];omega
   have Xj:=Lib.hid (xK p k);have hpk:Hid (p k=(a.mem k || b.mem k)):=Lib.hid (by rw [HP.out]);clear hs1;go_wp2_with ((with_reducible refine zL r0.at ay rfl (C:=au a) ?_));have hc:=abX wr a (UInt8.ofNat k);rw [hbk] at hc;refine hc.mono ?_;clear hc;rintro e w3 ⟨rfl,hb3⟩;replace hb:=hb.trans (hb3.mono (Dl hR.lt));replace hR:=hR.below hb3 hR.lt;replace r0:=r0.below hb3 r0.lt;replace r1:=r1.below hb3 r1.lt;replace r2:=r2.below hb3 r2.lt;clear hb3;cases hm:a.mem k with
   | true=>
    have hpt:Hid (p k=true):=Lib.hid (by rw [hpk.out,hm];rfl);go_wp2_with ((with_reducible refine zL hR.at ay rfl (C:=au (dV p k)) ?_));have hc:=OA w3 (dV p k) (UInt8.ofNat k);rw [hbk] at hc;refine hc.mono ?_;clear hc;rintro e w5 ⟨rfl,hb5⟩;replace hb:=hb.trans (hb5.mono (Dl hR.lt));replace hR:=hR.below hb5 hR.lt;have hF:(dV p k).add k=dV p (k+1):=by rw [Xj.out,if_pos hpt.out]
    rw [hF];clear hF;go_wp2_with (((with_reducible refine zS (l':=aG (dV p (k+1))) hR ay ?_);(intro w6 hs6 di fO)))
    go_roundw
    case rel=>exact ⟨k+1,by omega,by go_num,hs6,hb.grown di (Dl hR.lt) (fun j e=>by cases e;exact af _)⟩
    case measure=>simp [intOf];omega
   | false=>
    go_wp2_with ((with_reducible refine F3 (f:=oV) (l:=aG b) (C:=au b) ay (.tmp 3) ?_ ?_ (w.heap.size+1) 0 ?_ r1.at rfl ?_);rfl;rfl;rfl);have hc:=abX w3 b (UInt8.ofNat k);rw [hbk] at hc;refine hc.mono ?_;clear hc;rintro e w4 ⟨rfl,hb4⟩;replace hb:=hb.trans (hb4.mono (Dl hR.lt));replace hR:=hR.below hb4 hR.lt;replace r0:=r0.below hb4 r0.lt;replace r1:=r1.below hb4 r1.lt;replace r2:=r2.below hb4 r2.lt;clear hb4;cases hn:b.mem k with
    | true=>
     have hpt:Hid (p k=true):=Lib.hid (by rw [hpk.out,hm,hn];rfl);go_wp2_with ((with_reducible refine zL hR.at ay rfl (C:=au (dV p k)) ?_));have hc:=OA w4 (dV p k) (UInt8.ofNat k);rw [hbk] at hc;refine hc.mono ?_;clear hc;rintro e w5 ⟨rfl,hb5⟩;replace hb:=hb.trans (hb5.mono (Dl hR.lt));replace hR:=hR.below hb5 hR.lt;have hF:(dV p k).add k=dV p (k+1):=by rw [Xj.out,if_pos hpt.out]
     rw [hF];clear hF;go_wp2_with (((with_reducible refine zS (l':=aG (dV p (k+1))) hR ay ?_);(intro w6 hs6 di fO)))
     go_roundw
     case rel=>exact ⟨k+1,by omega,by go_num,hs6,hb.grown di (Dl hR.lt) (fun j e=>by cases e;exact af _)⟩
     case measure=>simp [intOf];omega
    | false=>
     have hpt:Hid (p k=false):=Lib.hid (by rw [hpk.out,hm,hn];rfl);have hF:dV p (k+1)=dV p k:=by rw [Xj.out,if_neg (by rw [hpt.out];decide)]
     replace hF:=Lib.hid hF;go_wp2_with fail
     go_roundw
     case rel=>exact ⟨k+1,by omega,by go_num,by rw [hF.out];exact hR,hb⟩
     case measure=>simp [intOf];omega
  ·have he:k=256:=by omega
   subst he;have hF:dV p 256=a.union b:=by rw [HP.out];exact Qd a b
   rw [hF] at hR;clear hF;generalize hv:a.union b=v at *
   go_wp2_with (first
    | ((with_reducible refine zL hR.at ay rfl (C:=au v) ?_))
    | ((with_reducible refine zS (l':=aG v) r2 ay ?_);(intro W6 hs6 di fO)))
   refine bodyPost_ret (aQ (f:=oV) (l:=aG v) rfl _ ay (w.heap.size+1+1) 0 rfl hs6.at) rfl ?_;exact ⟨by rw [hv];rfl,hB.grown di hB.size (fun j e=>by cases e;omega)⟩
theorem ad5 (w:World) (v:Value) (l:List UInt8) (hv:Rd aV w v l) (hn:l.length≤4294967296):Calls Tryz.prog 38 #[v] w fun e w'=>e= .returned (.agg (au (fU l)))∧Below w.heap.size w w':=by
 have HV:=Lib.hid hv;obtain ⟨p,c,rfl⟩:=hv.slice;clear hv;go_enter Tryz.func38,Tryz.ntmps38;go_upto_region 1 with (fail)
 obtain ⟨W,hW,hB,hs,r0⟩:∃W,(w.alloc (.cells #[.int .u64 0, .int .u64 0, .int .u64 0, .int .u64 0] 65))=W∧Below w.heap.size w W∧w.heap.size+1≤W.heap.size∧Row oV W w.heap.size 65 [ow 0,ow 0,ow 0,ow 0]:=
  ⟨_,rfl,ah (ak _ _) (af _) _,by simp,Row.new _ _ rfl⟩
 rw [hW];clear hW;have hz:Row oV (W.alloc (.cells #[.int .u64 0, .int .u64 0, .int .u64 0, .int .u64 0] 65)) W.heap.size 65 [ow 0,ow 0,ow 0,ow 0]:=Row.new _ _ rfl;go_upto_region 2 with (((with_reducible refine zS (l':=[ow 0,ow 0,ow 0,ow 0]) hz ay ?_);(intro W1 hs1 hG1 hz1)));have hb1:=jT (ak W.heap.size W) hG1;replace r0:=r0.below hb1 r0.lt;replace hB:=hB.trans (hb1.mono hB.size);generalize hcb:W.heap.size=cb at *;have afh:w.heap.size+1≤cb:=hs;clear hs hz hG1 hz1 hb1 hcb W;go_upto_region 3 with (fail)
 go_loopw [4] (fun i wr=>∃(k:Nat),k≤l.length∧i= .int .i64 k∧Row oV wr cb 65 (aG (fU (l.take k)))∧Below cb W1 wr) (fun i _=>l.length - (intOf i).toNat)
 case atStart=>exact ⟨0,by omega,rfl,hs1,ak _ _⟩
 case round=>
  obtain ⟨k,hk,rfl,hR,hb⟩:=hrel;have hcw:=hs1.lt;by_cases hlt:k<l.length
  ·have hq:(k:Int)<(l.length:Int):=by omega
   obtain ⟨b,o,rfl,hcl⟩:∃b o,p=some ⟨b,o,none⟩∧∀X,Below cb W1 X→X.cell? ⟨b,o+k,none⟩=some (.int .u8 (l[k].toNat:Int)):=by
    rcases HV.out with ⟨_,_,h0⟩ | ⟨b,o,cap,he,hc,hat,hbl⟩
    ·rw [h0] at hlt;simp at hlt
    ·cases he;refine ⟨b,o,rfl,fun X hX=> ?_⟩;rw [hX.cell (p:=⟨b,o+k,none⟩) (by show b<cb;omega),hB.cell (p:=⟨b,o+k,none⟩) hbl,hat k hlt,bK hlt];rfl
   replace hcl:=Lib.hid hcl;go_wp2_with fail;refine aC (S:=fun X=>Below cb W1 X∧Row oV X cb 65 (aG (fU (l.take k)))) 6 rfl (by kernel_rfl) ⟨hb.drew,hR⟩ fun hS=> ?_;refine tk 0 12 (.agg (au (fU (l.take k)))) hS ?_ rfl (aA (f:=oV) (l:=aG (fU (l.take k))) ay (.tmp 3) rfl cb 0 rfl (fun W' h=>h.2.at) rfl rfl);refine tk 1 13 (.slice (some ⟨b,o,none⟩) l.length c) hS ?_;refine tk 2 14 (.int .i64 k) hS ?_;refine tk 3 15 (.pointer (some ⟨b,o+k,none⟩)) hS ?_ rfl yg;refine tk 4 16 (.int .u8 (l[k].toNat:Int)) hS ?_ rfl (qi fun W' h=>by have q0:=hcl.out W' h.1;go_simp);refine iT 5 (fun K' hK=> ?_);refine cD 17 76 #[.agg (au (fU (l.take k))), .int .u8 (l[k].toNat:Int)] ?_;refine (OA _ (fU (l.take k)) l[k]).mono ?_;rintro e Wc ⟨rfl,jH⟩;replace hS:=And.intro (hS.1.trans (jH.mono (Dl hS.2.lt))) (hS.2.below jH hS.2.lt);refine ⟨_,rfl,hK.out _ _ hS fun _=> ?_⟩;clear hK jH;simp only [sA,sB,sC];refine aL (by kernel_rfl) ?_;simp only [List.drop];obtain ⟨hb,hR⟩:=hS;have hF:=Cc l k hlt;rw [← hF];replace hF:=Lib.hid hF;generalize hv:fU (l.take (k+1))=v at *;go_wp2_with (((with_reducible refine zS (l':=aG v) hR ay ?_);(intro w6 hs6 di fO)))
   go_roundw
   case rel=>exact ⟨k+1,by omega,by go_num,by rw [hv];exact hs6,hb.grown di (Dl hR.lt) (fun j e=>by cases e;exact af _)⟩
   case measure=>simp [intOf];omega
  ·have he:k=l.length:=by omega
   subst he;rw [Qp] at hR;have hq:¬(l.length:Int)<(l.length:Int):=by omega
   replace hB:=hB.trans (hb.mono (by omega));replace r0:=r0.below hb (by omega);generalize hv:fU l=v at *
   go_wp2_with (first
    | ((with_reducible refine zL hR.at ay rfl (C:=au v) ?_))
    | ((with_reducible refine zS (l':=aG v) r0 ay ?_);(intro W6 hs6 di fO)))
   refine bodyPost_ret (aQ (f:=oV) (l:=aG v) rfl _ ay w.heap.size 0 rfl hs6.at) rfl ?_;exact ⟨by first | rfl | (rw [hv];rfl),hB.grown di hB.size (fun j e=>by cases e;omega)⟩
theorem NZ.rO (N:NZ) (s:sS) (a b:List UInt8):N.run s (a++b)=N.run (N.run s a) b:=by
 unfold NZ.run;rw [Rl]
def sS.Inv (s:sS):Prop:=s.ref=true→s.pos=0
theorem NZ.EJ (N:NZ) (s:sS) (b:UInt8) (h:s.Inv):(N.step s b).Inv:=by
 unfold NZ.step;split
 ·exact h
 ·intro hr;have h3:(N.cell s.pos.toNat b).act=3:=of_decide_eq_true hr;show (N.cell s.pos.toNat b).next=0;unfold Ce.next;rw [if_pos h3]
theorem NZ.J6 (N:NZ) (bs:List UInt8):∀s:sS,s.Inv→(N.run s bs).Inv:=by
 induction bs with
 | nil=>exact fun s h=>h
 | cons b bs ih=>exact fun s h=>ih _ (N.EJ s b h)
theorem NZ.V4 (N:NZ) (p:Int) (r:Bool) (o o':List UInt8) (b:UInt8):N.step ⟨p,r,o'++o⟩ b=⟨(N.step ⟨p,r,o⟩ b).pos,(N.step ⟨p,r,o⟩ b).ref,o'++(N.step ⟨p,r,o⟩ b).out⟩:=by
 unfold NZ.step;cases r with
 | true=>rfl
 | false=>simp
theorem NZ.abh (N:NZ) (bs:List UInt8):∀(p:Int) (r:Bool) (o o':List UInt8),N.run ⟨p,r,o'++o⟩ bs=⟨(N.run ⟨p,r,o⟩ bs).pos,(N.run ⟨p,r,o⟩ bs).ref,o'++(N.run ⟨p,r,o⟩ bs).out⟩:=by
 induction bs with
 | nil=>exact fun p r o o'=>rfl
 | cons b bs ih=>
  intro p r o o';show N.run (N.step ⟨p,r,o'++o⟩ b) bs=_;rw [NZ.V4,ih];rfl
theorem NZ.Ew (N:NZ) (s:sS) (bs:List UInt8) (h:s.Inv):N.run s bs=⟨(N.run ⟨mh s.ref s.pos,s.ref,[]⟩ bs).pos,(N.run ⟨mh s.ref s.pos,s.ref,[]⟩ bs).ref,s.out++(N.run ⟨mh s.ref s.pos,s.ref,[]⟩ bs).out⟩:=by
 have e:mh s.ref s.pos=s.pos:=by
  unfold mh;split
  ·rename_i hr;exact (h hr).symm
  ·rfl
 rw [e,← NZ.abh,D8]
theorem NZ.RB {N:NZ} (hv:N.valid=true) (gH:N.zx) (bs:List UInt8):∀s:sS,(0≤s.pos∧s.pos<(N.rows.length:Int))→0≤(N.run s bs).pos∧(N.run s bs).pos<(N.rows.length:Int):=by
 induction bs with
 | nil=>exact fun s h=>h
 | cons b bs ih=>exact fun s h=>ih _ (step_pos hv gH s h b)
theorem NZ.CO {N:NZ} (hv:N.valid=true) {p:Int} (h:0≤p∧p<(N.rows.length:Int)):N.lZ p=true:=by
 unfold NZ.lZ;rw [hv,Jq];exact decide_eq_true h
theorem NZ.E5 {N:NZ} (hv:N.valid=true):(0:Int)≤0∧(0:Int)<(N.rows.length:Int):=⟨Int.le_refl _,by have:=((fZ N).1 hv).1.2.1;omega⟩
abbrev st0:sS:=⟨0,false,[]⟩
theorem QW:sS.Inv st0:=fun h=>by cases h
theorem NZ.acD {N:NZ} (hv:N.valid=true) (bs:List UInt8):N.acc bs=N.fin (N.run st0 bs).pos (N.run st0 bs).ref:=by
 unfold NZ.acc;rw [NZ.CO hv (NZ.E5 hv),Jq]
theorem Ce.H9 (c:Ce) (b:UInt8):(c.out b).length≤1:=by
 unfold Ce.out;split
 ·simp
 ·split<;>simp
theorem NZ.abK (N:NZ) (s:sS) (b:UInt8):(N.step s b).out.length≤s.out.length+1:=by
 unfold NZ.step;split
 ·omega
 ·have:=Ce.H9 (N.cell s.pos.toNat b) b;simp only [eH];omega
theorem NZ.H9 (N:NZ) (bs:List UInt8):∀s:sS,(N.run s bs).out.length≤s.out.length+bs.length:=by
 induction bs with
 | nil=>exact fun s=>Nat.le_add_right _ _
 | cons b bs ih=>
  intro s;have h1:=ih (N.step s b);have h2:=N.abK s b;show (N.run (N.step s b) bs).out.length≤_;rw [mO];omega
theorem NZ.three {N:NZ} (hv:N.valid=true) (gH:N.zx) (x y z:List UInt8) (s t u:sS) (hs:s=N.run ⟨0,false,[]⟩ x) (ht:t=N.run ⟨mh s.ref s.pos,s.ref,[]⟩ y) (hu:u=N.run ⟨mh t.ref t.pos,t.ref,[]⟩ z):
  N.lZ 0=true∧N.lZ s.pos=true∧N.lZ t.pos=true∧N.acc (x++(y++z))=N.fin u.pos u.ref∧s.out++(t.out++u.out)=(N.run ⟨0,false,[]⟩ (x++(y++z))).out:=by
 have i1:s.Inv:=by rw [hs];exact N.J6 x _ QW
 have p1:0≤s.pos∧s.pos<(N.rows.length:Int):=by rw [hs];exact NZ.RB hv gH x _ (NZ.E5 hv)
 have e2:=N.Ew s y i1;rw [← ht] at e2;have i2:(N.run s y).Inv:=N.J6 y _ i1;have p2:0≤t.pos∧t.pos<(N.rows.length:Int):=by have:=NZ.RB hv gH y _ p1;rw [e2] at this;exact this
 have e3:=N.Ew (N.run s y) z i2;rw [e2] at e3;simp only at e3;rw [← hu] at e3;have e4:N.run ⟨0,false,[]⟩ (x++(y++z))=⟨u.pos,u.ref,s.out++t.out++u.out⟩:=by rw [NZ.rO,← hs,NZ.rO,e2,e3]
 refine ⟨NZ.CO hv (NZ.E5 hv),NZ.CO hv p1,NZ.CO hv p2,?_,?_⟩
 ·rw [NZ.acD hv];show N.fin (N.run ⟨0,false,[]⟩ _).pos (N.run ⟨0,false,[]⟩ _).ref=_;rw [e4]
 ·rw [e4,zD]
theorem NZ.begins {N:NZ} (hv:N.valid=true) (gH:N.zx) (x y:List UInt8):(N.run ⟨0,false,[]⟩ x).out<+:(N.run ⟨0,false,[]⟩ (x++y)).out:=by
 have _:=gH;have _:=hv;rw [NZ.rO,N.Ew _ y (N.J6 x _ QW)];exact List.prefix_append _ _
def aI:Cl:=⟨0,8589934592,0,0⟩
def aH:Cl:=⟨0,17179869184,0,0⟩
def aT:Cl:=⟨18446744073709551615,18446744047939747839,18446744073709551615,18446744073709551615⟩
def Ef (r:Nat):Int:=if r=3 then 1 else if r=4 then 2 else if r=5 then 2 else if r=6 then 3 else if r=7 then 3 else 0
def Zf (r:Nat):UInt8:=if r=4 then 97 else if r=5 then 98 else 0
def jm (k states:Nat):Ce:=⟨((k / 8 % states:Nat):Int),Ef (k % 8),Zf (k % 8)⟩
def aX (l:List UInt8):Nat:=if 0<l.length then 1+(l[0]?.getD 0).toNat % 4 else 1
def P6 (l:List UInt8) (s k:Nat):Nat:=if 1+4 * s+k<l.length then (l[1+4 * s+k]?.getD 0).toNat else 0
def iO (l:List UInt8) (s n:Nat):List Ce:=(List.range n).map fun k=>jm (P6 l s k) (aX l)
def AL (l:List UInt8) (s:Nat):Bool:=if 4+4 * s<l.length then decide ((l[4+4 * s]?.getD 0).toNat % 4≠0) else true
def mH (l:List UInt8) (n:Nat):List (List Ce):=(List.range n).map fun s=>iO l s 3
def jK (l:List UInt8) (n:Nat):List Bool:=(List.range n).map (AL l)
def made (l:List UInt8):NZ:=⟨[aT,aI,aH],mH l (aX l),jK l (aX l)⟩
theorem Cz (l:List UInt8):1≤aX l∧aX l≤4:=by unfold aX;split<;>omega
theorem WY:∀r,r<8→0≤Ef r∧Ef r≤3∧(Ef r≠2→Zf r=0):=by decide
theorem Qn (l:List UInt8) (s n:Nat):iO l s (n+1)=iO l s n++[jm (P6 l s n) (aX l)]:=by unfold iO;rw [KR,wV];rfl
theorem Ci (l:List UInt8) (n:Nat):jK l (n+1)=jK l n++[AL l n]:=by unfold jK;rw [KR,wV];rfl
theorem dP (l:List UInt8) (s n:Nat):(iO l s n).length=n:=by simp [iO]
theorem ja (l:List UInt8) (n:Nat):(mH l n).length=n:=by simp [mH]
theorem dQ (l:List UInt8) (n:Nat):(jK l n).length=n:=by simp [jK]
theorem OG (k n:Nat) (hn:1≤n):(jm k n).bad n=false:=by
 have h:=WY (k % 8) (Qv _ (by omega));have h2:k / 8 % n<n:=Qv _ (by omega);unfold Ce.bad jm;rw [decide_eq_false_iff_not];simp only;rintro (h3 | h3 | h3 | h3 | ⟨h3,h4⟩)
 ·omega
 ·omega
 ·omega
 ·omega
 ·exact h4 (by rw [h.2.2 h3];rfl)
theorem Q0 (l:List UInt8):(made l).valid=true:=by
 have hs:=Cz l;rw [fZ];have k1:lS [aT,aI,aH]=256:=by decide+kernel
 have k2:(mR [aT,aI,aH]).size=256:=by decide+kernel
 refine ⟨⟨show ([aT,aI,aH]:List Cl).length≤256 by decide,?_,?_,?_⟩,?_,k1,k2,?_⟩
 ·show 1≤(mH l (aX l)).length;rw [ja];omega
 ·show (mH l (aX l)).length≤64;rw [ja];omega
 ·show (jK l (aX l)).length=(mH l (aX l)).length;rw [ja,dQ]
 ·show ∀c∈[aT,aI,aH],c.size≠0;decide+kernel
 ·intro r hr;obtain ⟨s,_,rfl⟩:=uW.1 (show r∈(List.range (aX l)).map fun s=>iO l s 3 from hr);refine ⟨dP _ _ _,?_⟩;rw [Xy];intro c hc;obtain ⟨k,_,rfl⟩:=uW.1 (show c∈(List.range 3).map fun k=>jm (P6 l s k) (aX l) from hc);show ¬(jm (P6 l s k) (aX l)).bad (mH l (aX l)).length=true;rw [ja,OG _ _ hs.1];decide
theorem acO {N:NZ} (h2:∀i:Fin 256,rV N.cls (UInt8.ofNat i.1)=((rV N.cls (UInt8.ofNat i.1)).toNat:Int)∧(rV N.cls (UInt8.ofNat i.1)).toNat<N.cls.length):N.zx:=by
 intro b;have h:=h2 ⟨b.toNat,b.toNat_lt⟩;have e:UInt8.ofNat b.toNat=b:=by simp
 simp only [e] at h;exact ⟨_,h.2,h.1⟩
theorem XC (l:List UInt8):(made l).zx:=acO (show ∀i:Fin 256,rV [aT,aI,aH] (UInt8.ofNat i.1)=((rV [aT,aI,aH] (UInt8.ofNat i.1)).toNat:Int)∧(rV [aT,aI,aH] (UInt8.ofNat i.1)).toNat<[aT,aI,aH].length by decide+kernel)
theorem kP:Maps.Keyed Tryz.prog 206:=Maps.Keyed.of_law (deep_law (m:=2) (by omega) (by kernel_rfl) (by kernel_rfl) (by kernel_rfl))
theorem kS:Maps.Keyed Tryz.prog 286:=Maps.Keyed.of_law (deep_law (m:=3) (by omega) (by kernel_rfl) (by kernel_rfl) (by kernel_rfl))
theorem Li {n:Nat} (h:n<65536):(Lit.int .i64 (n:Int)).wf=true:=WalkArith.wf_i64 (by omega)
theorem wfX (x:UInt64):(Lit.int .u64 (X x)).wf=true:=by
 have h1:=fH x;have h2:=ac4 x;simp only [Lit.wf,IntKind.min,IntKind.max,IntKind.signed,IntKind.bits,cB,decide_eq_true_eq,if_true,Iu,if_false];omega
theorem Zh {α:Type} [DecidableEq α] (B:BEq α) (hB: @LawfulBEq α B):(instBEqOfDecidableEq:BEq α)=B:=by
 have h:∀a b,@BEq.beq α B a b=decide (a=b):=fun a b=>by
  rw [Dr,decide_eq_true_eq];exact @beq_iff_eq α B hB a b
 obtain ⟨f⟩:=B;have e:(fun a b=>decide (a=b))=f:=by funext a b;exact (h a b).symm
 show BEq.mk (fun a b=>decide (a=b))=_;rw [e]
theorem Jf {α:Type} [DecidableEq α] [B:BEq α] [LawfulBEq α] (l:List α) (a:α): @List.idxOf α instBEqOfDecidableEq a l= @List.idxOf α B a l:=by rw [Zh B inferInstance]
def TM (x:Nat×Nat):Prop:=x.1<65536∧x.2<65536
def Mf (x:Nat×Nat):List Lit:=[.int .i64 (x.1:Int), .int .i64 (x.2:Int)]
def Gd (x:Nat×Nat):Lit:= .string (keyBytes (Mf x))
theorem WU (x:Nat×Nat):WideAt.IsKeyLit (Gd x):=trivial
theorem Xp (a b:Nat×Nat) (ha:TM a) (hb:TM b) (h:Gd a=Gd b):a=b:=by
 injection h with h
 have:=keyBytes_inj (l:=Mf a) (l':=Mf b) ⟨rfl,rfl,trivial⟩ (by simp only [Mf,nX,Dj,or_false];rintro x (rfl | rfl);exact Li ha.1;exact Li ha.2) (by simp only [Mf,nX,Dj,or_false];rintro x (rfl | rfl);exact Li hb.1;exact Li hb.2) h;simp only [Mf,GK,Lit.int.injEq,true_and,and_true] at this;exact Prod.ext (by omega) (by omega)
def afZ (x:Nat×Nat):Value:= .agg #[.int .i64 (x.1:Int), .int .i64 (x.2:Int)]
theorem acu (x:Nat×Nat) (h:TM x):keyOf Tryz.prog 206 (afZ x)=some (Gd x):=
 WideMaps.keyOf_pair (e:=3) (q:= .i64) ⟨Tryz.underlying206,by kernel_rfl,by kernel_rfl,by kernel_rfl⟩ Tryz.underlying3 ⟨Tryz.prog.types.size - 1,by kernel_rfl⟩ (Li h.1) (Li h.2)
def ql (x:Sx):Prop:=x.1<65536∧x.2.1<65536
def Mm (x:Sx):List Lit:=[.int .i64 (x.1:Int), .int .i64 (x.2.1:Int), .int .u64 (X x.2.2)]
def encS (x:Sx):Lit:= .string (keyBytes (Mm x))
theorem M3 (x:Sx):WideAt.IsKeyLit (encS x):=trivial
theorem RY {x:Sx} (h:ql x):∀l∈Mm x,l.keyWf:=by
 simp only [Mm,nX,Dj,or_false];rintro l (rfl | rfl | rfl)
 ·exact Li h.1
 ·exact Li h.2
 ·exact wfX _
theorem LH (a b:Sx) (ha:ql a) (hb:ql b) (h:encS a=encS b):a=b:=by
 injection h with h
 have:=keyBytes_inj (l:=Mm a) (l':=Mm b) ⟨rfl,rfl,rfl,trivial⟩ (RY ha) (RY hb) h;simp only [Mm,GK,Lit.int.injEq,true_and,and_true] at this;exact Prod.ext (by omega) (Prod.ext (by omega) (rJ this.2.2))
def ji (x:Sx):List OC:=[oi (x.1:Int),oi (x.2.1:Int),ow (X x.2.2)]
def dh (x:Sx):Array Value:= #[.int .i64 (x.1:Int), .int .i64 (x.2.1:Int), .int .u64 (X x.2.2)]
theorem CZ (x:Sx):(ji x).length=3:=rfl
theorem kF (x:Sx):dh x=((ji x).map oV).toArray:=rfl
theorem OZ {P:Program} {k e t u:TypeId} {fs:Array Field} (hk:P.keyType k=true) (u1:P.underlying k=some (.struct fs)) (hfs:fs.toList.map (fun f=>(f.name != "_",f.type,f.offset))=[(true,e,0),(true,e,1),(true,t,2)]) (u2:P.underlying e=some (.int .i64)) (u3:P.underlying t=some (.array 1 u)) (u4:P.underlying u=some (.int .u64))
  (c1:P.cellsOf k=3) (c2:P.cellsOf e=1) (c3:P.cellsOf t=1) (c4:P.cellsOf u=1) (hsz:∃m,P.types.size=m+2) {a b c:Int} (w1:(Lit.int .i64 a).wf=true) (w2:(Lit.int .i64 b).wf=true) (w3:(Lit.int .u64 c).wf=true):
  keyOf P k (.agg #[.int .i64 a, .int .i64 b, .int .u64 c])=some (.string (keyBytes [.int .i64 a, .int .i64 b, .int .u64 c])):=by
 obtain ⟨m,hm⟩:=hsz;obtain ⟨l⟩:=fs;simp only at hfs
 match l,hfs with
 | [],hfs=>cases hfs
 | [_],hfs=>simp at hfs
 | [_,_],hfs=>simp at hfs
 | _::_::_::_::_,hfs=>simp at hfs
 | [f1,f2,f3],hfs=>
  simp only [Fg,Q8,GK,bE,and_true] at hfs;obtain ⟨⟨n1,t1,o1⟩,⟨n2,t2,o2⟩,n3,t3,o3⟩:=hfs;unfold keyOf;simp only [u1];rw [if_pos (by simp [hk,Value.formed,u1,c1]),hm];unfold Program.keyLits;simp only [u1,Value.cells];rw [if_pos ⟨by rw [c1];rfl,by simp [n1,n2,n3]⟩];simp [t1,t2,t3,o1,o2,o3,c2,c3,Program.keyLits,u2,u3,u4,w1,w2,w3,c4,KR]
theorem Vz (x:Sx) (h:ql x):keyOf Tryz.prog 286 (.agg (dh x))=some (encS x):=
 OZ (e:=3) (t:=284) (u:=63) (by kernel_rfl) Tryz.underlying286 (by kernel_rfl) Tryz.underlying3 Tryz.underlying284 Tryz.underlying63
  (by kernel_rfl) (by kernel_rfl) (by kernel_rfl) (by kernel_rfl) ⟨Tryz.prog.types.size - 2,by kernel_rfl⟩ (Li h.1) (Li h.2) (wfX _)
end
section
open Go.RowKit Mem
def NI (w:World) (nm:ByteArray) (m:List UInt8) (base xb sb so sc bb bo bc mb:Nat) (nv av:OC):Prop:=
 Row oV w xb 136 (exC sb so sc bb bo bc mb nv on on av)∧∃u ib io ic,(At oV w sb so (stC 13 0 nm (-1) (-1))∧sb<w.heap.size)∧(w.cell? ⟨bb,bo,none⟩=some (.slice (some ⟨ib,io,none⟩) 1 ic)∧bb<w.heap.size)∧
  (w.cell? ⟨ib,io,none⟩=some (.int .i64 0)∧ib<w.heap.size)∧(w.cell? ⟨mb,0,none⟩=some u∧mb<w.heap.size)∧Mem.Own aV w base 5 u m∧m.length≤4096∧xb<base∧xb≠mb
def vO (w:World) (nm:ByteArray) (m:List UInt8) (xb sb so sc bb bo bc mb:Nat) (nv av:OC):Prop:=
 ∃g c ts u,Row oV w xb 136 (exC sb so sc bb bo bc mb nv ⟨.slice (some ⟨g,0,none⟩) 1 c,rfl⟩ ts av)∧w.cell? ⟨g,0,none⟩=some (.string nm)∧w.cell? ⟨g,1,none⟩=some u∧Rd aV w u m∧g<w.heap.size∧1≤c
variable {w w':World} {nm:ByteArray} {m:List UInt8} {base xb sb so sc bb bo bc mb:Nat} {nv av:OC}
theorem NI.below (h:NI w nm m base xb sb so sc bb bo bc mb nv av) (hb:Below w.heap.size w w'):NI w' nm m base xb sb so sc bb bo bc mb nv av:=by
 obtain ⟨h1,u,ib,io,ic,⟨h2,l2⟩,⟨h3,l3⟩,⟨h4,l4⟩,⟨h5,l5⟩,h6,h7⟩:=h;have hl:∀b,b<w.heap.size→b<w'.heap.size:=fun b h=>bJ h hb.size;exact ⟨h1.below hb h1.lt,u,ib,io,ic,⟨h2.below hb l2,hl _ l2⟩,⟨(hb.cell (p:=⟨bb,bo,none⟩) l3).trans h3,hl _ l3⟩,⟨(hb.cell (p:=⟨ib,io,none⟩) l4).trans h4,hl _ l4⟩,⟨(hb.cell (p:=⟨mb,0,none⟩) l5).trans h5,hl _ l5⟩,h6.below' hb,h7⟩
theorem vO.below (h:vO w nm m xb sb so sc bb bo bc mb nv av) (hb:Below w.heap.size w w'):vO w' nm m xb sb so sc bb bo bc mb nv av:=by
 obtain ⟨g,c,ts,u,h1,h2,h3,h4,h5,h6⟩:=h;exact ⟨g,c,ts,u,h1.below hb h1.lt,(hb.cell (p:=⟨g,0,none⟩) h5).trans h2,(hb.cell (p:=⟨g,1,none⟩) h5).trans h3,h4.below hb,bJ h5 hb.size,h6⟩
theorem Rd.ach {r:Nat} {t:TypeId} {l:List OC} {u:Value} (h4:Rd aV w u m) (hg:w.grownBy w' (some r)) (hr:Row oV w r t l) (hl:∀x∈l,∀y,oV x≠aV y):Rd aV w' u m:=by
 rcases h4 with hn | ⟨b,o,cap,rfl,hc,ha,hlt⟩
 ·exact .inl hn
 ·refine .inr ⟨b,o,cap,rfl,hc,?_,bJ hlt hg.size⟩;intro i hi;refine (o6 (a:=⟨b,o+i,none⟩) (hg.block b hlt ?_)).trans (ha i hi);intro e;injection e with e
  subst e;have h7:=ha i hi;have h8:=hr.cell? (o+i);rw [h8] at h7;rw [bK hi] at h7;rcases GN (o+i) l.length with hk | hk
  ·rw [bK hk] at h7;simp only [nA,ax] at h7;exact hl _ (oO hk) _ h7
  ·rw [qJ (by simpa using hk)] at h7;cases h7
theorem vO.grown {r:Nat} {t:TypeId} (h:vO w nm m xb sb so sc bb bo bc mb nv av) (hg:w.grownBy w' (some r)) (hxr:xb≠r) (hr:Row oV w r t [ob false,oi 0]):vO w' nm m xb sb so sc bb bo bc mb nv av:=by
 obtain ⟨g,c,ts,u,h1,h2,h3,h4,h5,h6⟩:=h;have c0:=hr.cell? 0
 have hgr:g≠r:=by
  rintro rfl;rw [h2] at c0;cases c0
 refine ⟨g,c,ts,u,h1.grown hg (by intro e;injection e with e;exact hxr e),(o6 (a:=⟨g,0,none⟩) (hg.block g h5 (by intro e;injection e with e;exact hgr e))).trans h2,(o6 (a:=⟨g,1,none⟩) (hg.block g h5 (by intro e;injection e with e;exact hgr e))).trans h3,?_,bJ h5 hg.size,h6⟩
 exact Rd.ach h4 hg hr (by intro x hx y;rcases nX.1 hx with rfl | hx;·intro e;cases e
                           rcases nX.1 hx with rfl | hx;·intro e;cases e
                           cases hx)
end
section
open Go Go.RowKit Mem
namespace Sc
abbrev Wd:=List UInt8
def bS (al:List UInt8) (ws:List Wd):List Wd:=ws.flatMap fun w=>al.map fun b=>w++[b]
def lvl (al:List UInt8):Nat→List Wd
 | 0=>[[]]
 | n+1=>bS al (lvl al n)
def upTo (al:List UInt8) (n:Nat):List Wd:=(List.range n).flatMap (lvl al)
theorem jO (al:List UInt8) (n:Nat):upTo al (n+1)=upTo al n++lvl al n:=by
 unfold upTo;rw [KR,qcB];simp
theorem uZ (al:List UInt8) (ws:List Wd):(bS al ws).length=ws.length * al.length:=by
 induction ws with
 | nil=>simp [bS]
 | cons w ws ih=>simp only [bS,Lg,eH,fe,mO] at ih ⊢;rw [ih,Ox];omega
theorem abZ (al:List UInt8) (n:Nat):(lvl al n).length=al.length ^ n:=by
 induction n with
 | zero=>rfl
 | succ n ih=>show (bS al (lvl al n)).length=_;rw [uZ,ih,Nat.pow_succ]
theorem E9 (al:List UInt8) (n:Nat):∀w∈lvl al n,w.length=n:=by
 induction n with
 | zero=>intro w h;simp [lvl] at h;rw [h];rfl
 | succ n ih=>
  intro w h;simp only [lvl,bS,TS,uW] at h;obtain ⟨x,hx,b,_,rfl⟩:=h;rw [eH,ih x hx];rfl
theorem Hw (al:List UInt8) (n:Nat) (ha:al.length≤4) (hn:n≤9):(lvl al n).length≤262144:=by
 rw [abZ];exact aJ (Nat.pow_le_pow_left ha n) (aJ (Nat.pow_le_pow_right (by decide) hn) (by decide))
theorem AZ (al:List UInt8) (ws:List Wd) (i:Nat) (h:i<ws.length):bS al (ws.take (i+1))=bS al (ws.take i)++al.map fun b=>ws[i]++[b]:=by
 rw [bS,Av h,qcB];simp [bS]
theorem map_take (al:List UInt8) (w:Wd) (j:Nat) (h:j<al.length):(al.take (j+1)).map (fun b=>w++[b])=(al.take j).map (fun b=>w++[b])++[w++[al[j]]]:=by
 rw [Av h,wV];rfl
theorem Bj (al:List UInt8) {a b:Nat} (h:a≤b):upTo al a<+:upTo al b:=by
 induction b with
 | zero=>rw [show a=0 by omega];exact List.prefix_refl _
 | succ b ih=>
  rcases GN b a with h1 | h1
  ·rw [show a=b+1 by omega];exact List.prefix_refl _
  ·exact (ih h1).trans (by rw [jO];exact List.prefix_append _ _)
end Sc
def dZ (D:Nat→Prop) (A B:World):Prop:=A.heap.size≤B.heap.size∧∀r o,¬D r→A.heap[r]?=some o→o.isCells=true→B.heap[r]?=some o
theorem dZ.trans {D:Nat→Prop} {A B C:World} (h:dZ D A B) (k:dZ D B C):dZ D A C:=⟨aJ h.1 k.1,fun r o hd ho hc=>k.2 r o hd (h.2 r o hd ho hc) hc⟩
theorem dZ.Qe {D:Nat→Prop} {A B:World} (h:Below A.heap.size A B):dZ D A B:=⟨h.size,fun r o _ ho _=>(h.block r (jB.1 ho).1).trans ho⟩
theorem dZ.row {D:Nat→Prop} {A B:World} {α:Type} {f:α→Value} {b:Nat} {t:TypeId} {l:List α} (h:dZ D A B) (hr:Row f A b t l) (hd:¬D b):Row f B b t l:=h.2 b _ hd hr rfl
theorem dZ.own {D:Nat→Prop} {A B:World} {α:Type} {f:α→Value} {base:Nat} {e:TypeId} {v:Value} {l:List α} (h:dZ D A B) (ho:Mem.Own f A base e v l) (hd:∀r,base≤r→¬D r):Mem.Own f B base e v l:=by
 refine ⟨ho.1,?_⟩;rcases ho.2 with hn | ⟨g,cap,cur,rfl,hbg,hc,rest⟩
 ·exact .inl hn
 ·exact .inr ⟨g,cap,cur,rfl,hbg,h.2 g _ (hd g hbg) hc rfl,rest⟩
theorem l8 {w:World} {α β:Type} {f:α→Value} {g:β→Value} {b1 b2:Nat} {e1 e2:TypeId} {v1 v2:Value} {l1:List α} {l2:List β} (h1:Mem.Own f w b1 e1 v1 l1) (h2:Mem.Own g w b2 e2 v2 l2) (hne:e1≠e2):∀k,v1.ownBlock=some k→some k≠v2.ownBlock:=by
 intro k hk e;rcases h1.2 with ⟨rfl,_⟩ | ⟨g1,c1,MG,rfl,_,hc1,_⟩
 ·cases hk
 ·rcases h2.2 with ⟨rfl,_⟩ | ⟨g2,c2,adV,rfl,_,hc2,_⟩
  ·cases e
  ·cases hk;injection e with e
   simp only at e;subst e;rw [hc1] at hc2;injection hc2 with hc2
   injection hc2 with _ hc2
   exact hne hc2
def jF (W:World) (base:Nat) (v:Value) (ws:List Sc.Wd):Prop:=
 ∃vals:List OC,vals.length=ws.length∧Mem.Own oV W base 22 v vals∧∀i (h:i<vals.length) (h2:i<ws.length),Mem.Own aV W base 5 (oV vals[i]) ws[i]
theorem jF.slice {W:World} {base:Nat} {v:Value} {ws:List Sc.Wd} (h:jF W base v ws):∃p cap,v= .slice p ws.length cap:=by
 obtain ⟨vals,h1,h2,_⟩:=h;obtain ⟨p,cap,rfl⟩:=h2.slice;exact ⟨p,cap,by rw [h1]⟩
theorem jF.keep {D:Nat→Prop} {A B:World} {base:Nat} {v:Value} {ws:List Sc.Wd} (h:jF A base v ws) (hk:dZ D A B) (hd:∀r,base≤r→¬D r):jF B base v ws:=by
 obtain ⟨vals,h1,h2,h3⟩:=h;exact ⟨vals,h1,hk.own h2 hd,fun i h h4=>hk.own (h3 i h h4) hd⟩
theorem jF.below {A B:World} {base:Nat} {v:Value} {ws:List Sc.Wd} (h:jF A base v ws) (hb:Below A.heap.size A B):jF B base v ws:=by
 obtain ⟨vals,h1,h2,h3⟩:=h;exact ⟨vals,h1,h2.below' hb,fun i h h4=>(h3 i h h4).below' hb⟩
theorem jF.nil (W:World) (base:Nat):jF W base (.slice none 0 0) []:=⟨[],rfl,Own.nil _ _ _,fun i h=>by cases h⟩
theorem jF.elem {W:World} {base:Nat} {p:Option Addr} {n c:Nat} {ws:List Sc.Wd} (h:jF W base (.slice p n c) ws) (k:Nat) (hk:k<ws.length):∃b q m cw,p=some ⟨b,0,none⟩∧W.cell? ⟨b,k,none⟩=some (.slice q m cw)∧m=ws[k].length∧Mem.Own aV W base 5 (.slice q m cw) ws[k]:=by
 obtain ⟨vals,h1,h2,h3⟩:=h;have hkv:k<vals.length:=by omega
 obtain ⟨g,hg⟩:∃g,p=some ⟨g,0,none⟩:=by
  rcases h2.2 with ⟨_,h0⟩ | ⟨g,cap,cur,he,_⟩
  ·omega
  ·injection he with he1 _;exact ⟨g,he1⟩
 subst hg;have hat:=h2.at g rfl k hkv;rw [bK hkv,oq] at hat;have ho:=h3 k hkv hk;obtain ⟨q,cw,hq⟩:=ho.slice;refine ⟨g,q,_,cw,rfl,?_,rfl,?_⟩
 ·rw [hat];show some (oV vals[k])=_;rw [hq]
 ·rw [← hq];exact ho
theorem jF.snoc {B:World} {base:Nat} {v':Value} {vals:List OC} {ws:List Sc.Wd} {x:OC} {w:Sc.Wd} (h1:vals.length=ws.length) (h3:∀i (h:i<vals.length) (h2:i<ws.length),Mem.Own aV B base 5 (oV vals[i]) ws[i])
  (hx:Mem.Own aV B base 5 (oV x) w) (ho:Mem.Own oV B base 22 v' (vals++[x])):jF B base v' (ws++[w]):=by
 refine ⟨vals++[x],by simp [h1],ho,fun i h h2=> ?_⟩;by_cases hi:i<vals.length
 ·rw [JB hi,JB (by omega)];exact h3 i hi (by omega)
 ·have:i=vals.length:=by simp at h;omega
  subst this;rw [qcd (af _),qcd (by omega)];simpa [h1] using hx
theorem jF.mono {W:World} {base b':Nat} {v:Value} {ws:List Sc.Wd} (h:jF W base v ws) (hb:b'≤base):jF W b' v ws:=by
 obtain ⟨vals,h1,h2,h3⟩:=h;exact ⟨vals,h1,h2.mono hb,fun i h h4=>(h3 i h h4).mono hb⟩
theorem jF.app {A B:World} {base b2:Nat} {v nv:Value} {ws:List Sc.Wd} {vals:List OC} (h:jF A base v ws) (hn:Mem.Own oV A b2 22 nv vals) (hg:A.grownBy B nv.ownBlock) (hne:∀g,v.ownBlock=some g→some g≠nv.ownBlock):jF B base v ws:=by
 obtain ⟨vs,h1,h2,h3⟩:=h;exact ⟨vs,h1,h2.dW hg hne,fun i h h4=>(h3 i h h4).dW hg (l8 (h3 i h h4) hn (by decide))⟩
theorem jF.row {W:World} {base:Nat} {v:Value} {ws:List Sc.Wd} (h:jF W base v ws):∀g,v.ownBlock=some g→base≤g∧g<W.heap.size:=by
 obtain ⟨vs,h1,h2,h3⟩:=h;exact fun g hg=>h2.lt g hg
theorem Zc:lD Tryz.prog 42 22 24:=lD.mk' (z:= .slice none 0 0) Tryz.underlying42 (by kernel_rfl) rfl
end
section
open Go Go.RowKit Mem
end
section
open Go.RowKit Mem
def Tz (w:World) (v:Value) (nm:ByteArray) (m:List UInt8):Prop:=
 ∃g c u,v= .agg #[.bool true, .int .i64 0, .slice (some ⟨g,0,none⟩) 1 c]∧w.cell? ⟨g,0,none⟩=some (.string nm)∧w.cell? ⟨g,1,none⟩=some u∧Rd aV w u m∧g<w.heap.size∧1≤c
theorem Tz.below {w w':World} {v:Value} {nm:ByteArray} {m:List UInt8} (h:Tz w v nm m) (hb:Below w.heap.size w w'):Tz w' v nm m:=by
 obtain ⟨g,c,u,rfl,h2,h3,h4,h5,h6⟩:=h;exact ⟨g,c,u,rfl,(hb.cell (p:=⟨g,0,none⟩) h5).trans h2,(hb.cell (p:=⟨g,1,none⟩) h5).trans h3,h4.below hb,bJ h5 hb.size,h6⟩
end
end Go.Proofs.YtncnfncglacheaaGreatDoor
