/- The normalizers that the reference makes of bytes, the passing and the refusing one, in plain Lean: valid, and every byte lies in a class. -/
import Derived.Test.YtncnfncglacheaaGreatDoorMHeldD
import Derived.Test.YtncnfncglacheaaGreatDoorMIndex
import Derived.Test.YtncnfncglacheaaGreatDoorMExec
import Derived.Test.YtncnfncglacheaaGreatDoorMHeld
import Derived.Test.YtncnfncglacheaaGreatDoorMClass
namespace Go.Proofs.YtncnfncglacheaaGreatDoor
open Go Go.RowKit Mem
set_option maxRecDepth 100000
def NZ.Cov (N:NZ):Prop:=∀b,∃i,i<N.cls.length∧idxC N.cls b=(i:Int)
def NZ.cell (N:NZ) (k:Nat) (b:UInt8):Ce:=((N.rows[k]?.getD [])[(idxC N.cls b).toNat]?).getD ⟨0,0,0⟩
def Ce.next (c:Ce):Int:=if c.act=3 then 0 else c.tgt
def Ce.refuses (c:Ce):Bool:=decide (c.act=3)
def Ce.out (c:Ce) (b:UInt8):List UInt8:=if c.act=0 then [b] else if c.act=2 then [c.b] else []
set_option maxHeartbeats 16000000 in
theorem nWrite (w0 w:World) (N:NZ) (xb k:Nat) (pc pr pe po:Option Addr) (kc kr ke ko:Nat) (l:List UInt8) (b:UInt8) (hv:NzAt w0 (.agg #[.slice pc N.cls.length kc, .slice pr N.rows.length kr, .slice pe N.ends.length ke]) N) (hB:Below w0.heap.size w0 w) (hxb:w0.heap.size≤xb)
  (hx:Row oV w xb 128 (stL k false (slO pc N.cls.length kc) (slO pr N.rows.length kr) (slO pe N.ends.length ke) (slO po l.length ko))) (ho:Mem.Own u8V w (xb+1) 5 (.slice po l.length ko) l) (hk:k<N.rows.length) (hcov:N.Cov) (hrl:N.rows[k].length=N.cls.length) (hcl:N.cls.length≤256) (hll:l.length≤140737488351232):
  Calls Tryz.prog 48 #[.pointer (some ⟨xb,0,none⟩), .int .u8 (b.toNat:Int)] w fun e w'=>e= .returned (.tuple #[])∧Below w0.heap.size w0 w'∧
   ∃po' ko' l',Hid (l'=l++(N.cell k b).out b)∧Row oV w' xb 128 (stL (N.cell k b).next (N.cell k b).refuses (slO pc N.cls.length kc) (slO pr N.rows.length kr) (slO pe N.ends.length ke) (slO po' l'.length ko'))∧Mem.Own u8V w' (xb+1) 5 (.slice po' l'.length ko') l':=by
 obtain ⟨vc,vr,ve,he,h1,h2,h3⟩:=hv
 obtain ⟨rfl,rfl,rfl⟩: .slice pc N.cls.length kc=vc∧ .slice pr N.rows.length kr=vr∧ .slice pe N.ends.length ke=ve:=by
  have:=congrArg (fun v=>match v with | Value.agg a=>a.toList | _=>[]) he
  simpa using this
 have HC:=Lib.hid (h1.below hB)
 obtain ⟨rb,ro,u,rfl,hu,hru,hcr,lrb⟩:=h2.elem k hk
 obtain ⟨pu,ku,rfl⟩:=hru.slice
 obtain ⟨i,hil,hi⟩:=hcov b
 obtain ⟨ub,uo,rfl,hce,hku,lub⟩:=hru.elem i (by omega)
 have hcell:N.cell k b=N.rows[k][i]'(by omega):=by
  unfold NZ.cell
  rw [hi,List.getElem?_eq_getElem hk]
  show (N.rows[k][(i:Int).toNat]?).getD _=_
  rw [show (i:Int).toNat=i by simp,List.getElem?_eq_getElem (by omega)]
  rfl
 rw [← hcell] at hce
 have hu':=(hB.cell (p:=⟨rb,ro+k,none⟩) lrb).trans hu
 have hce':=hce.below hB lub
 have lrb':=Nat.lt_of_lt_of_le lrb hB.size
 have lub':=Nat.lt_of_lt_of_le lub hB.size
 clear he h1 h2 h3 hu hru hce hcell hcr
 generalize hc:N.cell k b=c at hce' ⊢
 clear hc
 have HB:=Lib.hid hB
 have HO:=Lib.hid ho
 have hq:(k:Int)<(N.rows.length:Int):=by omega
 have hq2:(i:Int)<(N.rows[k].length:Int):=by omega
 have HX:=Lib.hid hx
 have HU:=Lib.hid hu'
 have HE:=Lib.hid hce'
 have c1:w.cell? ⟨xb,1,none⟩=some (.bool false):=by rw [hx.cell?];rfl
 have lx:=hx.lt
 clear hx hu' hce' hB ho
 go_enter Tryz.func48,Tryz.ntmps48
 go_upto_region 1 with (fail)
 have HS:Hid (∀X,Below w.heap.size w X→X.cell? ⟨xb,3,none⟩=some (.slice (some ⟨rb,ro,none⟩) N.rows.length kr)∧X.cell? ⟨xb,0,none⟩=some (.int .i64 k)∧X.cell? ⟨rb,ro+k,none⟩=some (.slice (some ⟨ub,uo,none⟩) N.rows[k].length ku)∧X.cell? ⟨xb,2,none⟩=some (.slice pc N.cls.length kc)∧At oV X ub (uo+i * 3) (ceL c)):=Lib.hid fun X hX=>by
  have h:=HX.out.below hX lx
  exact ⟨by rw [h.cell?];rfl,by rw [h.cell?];rfl,(hX.cell (p:=⟨rb,ro+k,none⟩) lrb').trans HU.out,by rw [h.cell?];rfl,HE.out.below hX lub'⟩
 go_cut [4] (fun s4 wx=>∃n4:Nat,s4= .pointer (some ⟨n4,0,none⟩)∧Row oV wx n4 61 (ceL c)∧Below w.heap.size w wx∧w.heap.size≤n4)
 case first=>
  clear c1
  refine region_headsT (S:=fun X=>Below w.heap.size w X) 22 rfl (by kernel_rfl) (Below.refl _ _).drew fun hS=> ?_
  refine tk 0 10 (.pointer (some ⟨xb,0,none⟩)) hS ?_
  refine tk 1 11 (.pointer (some ⟨xb,0,none⟩)) hS ?_
  refine tk 2 12 (.pointer (some ⟨xb,2,none⟩)) hS ?_
  refine tk 3 13 (.pointer (some ⟨xb,3,none⟩)) hS ?_
  refine tk 4 14 (.slice (some ⟨rb,ro,none⟩) N.rows.length kr) hS ?_ rfl (qi fun W' h=>by obtain ⟨q0,q1,q2,q3,_⟩:=HS.out W' h;go_simp)
  refine tk 5 15 (.pointer (some ⟨xb,0,none⟩)) hS ?_
  refine tk 6 16 (.pointer (some ⟨xb,0,none⟩)) hS ?_
  refine tk 7 17 (.pointer (some ⟨xb,0,none⟩)) hS ?_
  refine tk 8 18 (.pointer (some ⟨xb,0,none⟩)) hS ?_
  refine tk 9 19 (.int .i64 k) hS ?_ rfl (qi fun W' h=>by obtain ⟨q0,q1,q2,q3,_⟩:=HS.out W' h;go_simp)
  refine tk 10 20 (.pointer (some ⟨rb,ro+k,none⟩)) hS ?_ rfl yg
  refine tk 11 21 (.slice (some ⟨ub,uo,none⟩) N.rows[k].length ku) hS ?_ rfl (qi fun W' h=>by obtain ⟨q0,q1,q2,q3,_⟩:=HS.out W' h;go_simp)
  refine tk 12 22 (.pointer (some ⟨xb,0,none⟩)) hS ?_
  refine tk 13 23 (.pointer (some ⟨xb,0,none⟩)) hS ?_
  refine tk 14 24 (.pointer (some ⟨xb,2,none⟩)) hS ?_
  refine tk 15 25 (.pointer (some ⟨xb,2,none⟩)) hS ?_
  refine tk 16 26 (.slice pc N.cls.length kc) hS ?_ rfl (qi fun W' h=>by obtain ⟨q0,q1,q2,q3,_⟩:=HS.out W' h;go_simp)
  refine tk 17 27 (.int .u8 (b.toNat:Int)) hS ?_
  refine headsT_ready (rs:=[18,21]) (by kernel_rfl) (by simp) (AllReadyT.cons (by omega) rfl (fun K' hK=> ?_) (AllReadyT.cons (by omega) rfl (fun K' hK=> ?_) AllReadyT.nil))
  ·refine cD 28 89 #[.slice pc N.cls.length kc, .int .u8 (b.toNat:Int)] ?_
   refine (clIndex _ _ N.cls b (HC.out.below hS) (by omega)).mono ?_
   rintro e Wb ⟨rfl,hBb⟩
   replace hS:=hS.trans (hBb.mono hS.size)
   refine ⟨_,rfl,hK.out _ _ hS fun _=> ?_⟩
   clear hK hBb
   simp only [sA,sB,sC]
   rw [hi]
   refine tk 19 29 (.pointer (some ⟨ub,uo+i * 3,none⟩)) hS ?_ rfl yg
   refine tk 20 30 (.agg (ceA c)) hS ?_ rfl (yieldsIf_load (f:=oV) (l:=ceL c) aggCe (.tmp 29) rfl ub (uo+i * 3) rfl (fun W' h=>(HS.out W' h).2.2.2.2) rfl rfl)
   refine rdT 21 (fun K' hK=> ?_)
   have hZ:Row oV (Wb.alloc (.cells #[.int .i64 0, .int .i64 0, .int .u8 0] 61)) Wb.heap.size 61 [oi 0,oi 0,⟨.int .u8 0,rfl⟩]:=Row.new _ _ rfl
   have hn4:w.heap.size≤Wb.heap.size:=hS.size
   replace hS:=hS.alloc hS.size (.cells #[.int .i64 0, .int .i64 0, .int .u8 0] 61)
   refine aD 4 (.cells #[.int .i64 0, .int .i64 0, .int .u8 0] 61) ?_
   refine hK.out _ _ hS fun _=> ?_
   clear hK
   simp only [sA,sB,sC]
   generalize (Wb.alloc (.cells #[.int .i64 0, .int .i64 0, .int .u8 0] 61))=Wz at hS hZ ⊢
   generalize Wb.heap.size=n4 at hZ hn4 ⊢
   refine headsT_tail (by kernel_rfl) ?_
   simp only [List.drop]
   go_wp2_with (first
    | ((with_reducible refine zS (l':=ceL c) hZ aggCe ?_);(intro We hse hGe hze)))
   go_meet
   exact ⟨n4,rfl,hse,hS.grown hGe hS.size (fun k e=>by cases e;exact hn4),hn4⟩
  ·generalize w.drew=Wd at hS ⊢
   have hZ:Row oV (Wd.alloc (.cells #[.int .i64 0, .int .i64 0, .int .u8 0] 61)) Wd.heap.size 61 [oi 0,oi 0,⟨.int .u8 0,rfl⟩]:=Row.new _ _ rfl
   have hn4:w.heap.size≤Wd.heap.size:=hS.size
   replace hS:=hS.alloc hS.size (.cells #[.int .i64 0, .int .i64 0, .int .u8 0] 61)
   refine aD 4 (.cells #[.int .i64 0, .int .i64 0, .int .u8 0] 61) ?_
   refine hK.out _ _ hS fun _=> ?_
   clear hK
   simp only [sA,sB,sC]
   generalize (Wd.alloc (.cells #[.int .i64 0, .int .i64 0, .int .u8 0] 61))=Wz at hS hZ ⊢
   generalize Wd.heap.size=n4 at hZ hn4 ⊢
   refine rdT 18 (fun K' hK=> ?_)
   refine cD 28 89 #[.slice pc N.cls.length kc, .int .u8 (b.toNat:Int)] ?_
   refine (clIndex _ _ N.cls b (HC.out.below hS) (by omega)).mono ?_
   rintro e Wb ⟨rfl,hBb⟩
   replace hS:=hS.trans (hBb.mono hS.size)
   replace hZ:=hZ.below hBb hZ.lt
   refine ⟨_,rfl,hK.out _ _ hS fun _=> ?_⟩
   clear hK hBb
   simp only [sA,sB,sC]
   rw [hi]
   refine tk 19 29 (.pointer (some ⟨ub,uo+i * 3,none⟩)) hS ?_ rfl yg
   refine tk 20 30 (.agg (ceA c)) hS ?_ rfl (yieldsIf_load (f:=oV) (l:=ceL c) aggCe (.tmp 29) rfl ub (uo+i * 3) rfl (fun W' h=>(HS.out W' h).2.2.2.2) rfl rfl)
   refine headsT_tail (by kernel_rfl) ?_
   simp only [List.drop]
   go_wp2_with (first
    | ((with_reducible refine zS (l':=ceL c) hZ aggCe ?_);(intro We hse hGe hze)))
   go_meet
   exact ⟨n4,rfl,hse,hS.grown hGe hS.size (fun k e=>by cases e;exact hn4),hn4⟩
 case rest=>
  clear c1
  obtain ⟨n4,rfl,hce,hX,hn4⟩:=hcut
  have hx:=HX.out.below hX lx
  have hO:=HO.out.below' hX
  have hBw:=HB.out.trans (hX.mono HB.out.size)
  clear hX
  have c0:wc.cell? ⟨n4,0,none⟩=some (.int .i64 c.tgt):=by rw [hce.cell?];rfl
  have e0:wc.cell? ⟨xb,0,none⟩=some (.int .i64 k):=by rw [hx.cell?];rfl
  have f0:=hx.frozen 0
  have hxn:xb<n4:=Nat.lt_of_lt_of_le lx hn4
  have hx2:Row oV (wc.setCell ⟨xb,0,none⟩ (.int .i64 c.tgt)) xb 128 (stL c.tgt false (slO pc N.cls.length kc) (slO (some ⟨rb,ro,none⟩) N.rows.length kr) (slO pe N.ends.length ke) (slO po l.length ko)):=hx.set 0 (oi c.tgt)
  have hce2:Row oV (wc.setCell ⟨xb,0,none⟩ (.int .i64 c.tgt)) n4 61 (ceL c):=hce.set_other (by omega) _ _
  have hO2:Mem.Own u8V (wc.setCell ⟨xb,0,none⟩ (.int .i64 c.tgt)) (xb+1) 5 (.slice po l.length ko) l:=hO.grownO' (grown_set (grown_of_below (Below.refl _ _) (some xb)) 0 _) (fun g hg e=>by injection e with e;have:=(hO.lt g hg).1;omega)
  have hB2:Below w0.heap.size w0 (wc.setCell ⟨xb,0,none⟩ (.int .i64 c.tgt)):=below_set hBw 0 hxb _
  go_upto_region 3 with (fail)
  generalize (wc.setCell ⟨xb,0,none⟩ (.int .i64 c.tgt))=W2 at hx2 hce2 hO2 hB2 ⊢
  clear c0 e0 f0 hx hce hO hBw
  have ca:W2.cell? ⟨n4,1,none⟩=some (.int .i64 c.act):=by rw [hce2.cell?];rfl
  have hln2:=hce2.lt
  have hlo:∀g,(Value.slice po l.length ko).ownBlock=some g→g<n4:=fun g hg=>Nat.lt_of_lt_of_le (HO.out.lt g hg).2 hn4
  by_cases a0:c.act=0
  ·have hnx:c.next=c.tgt:=by unfold Ce.next;rw [if_neg (by omega)]
   have hrf:c.refuses=false:=decide_eq_false (by omega)
   have hout:c.out b=[b]:=by unfold Ce.out;rw [if_pos a0]
   have eb:W2.cell? ⟨n4,2,none⟩=some (.int .u8 (c.b.toNat:Int)):=by rw [hce2.cell?];rfl
   have fb:=hce2.frozen 2
   have hce3:Row oV (W2.setCell ⟨n4,2,none⟩ (.int .u8 (b.toNat:Int))) n4 61 [oi c.tgt,oi c.act,⟨.int .u8 (b.toNat:Int),rfl⟩]:=hce2.set 2 ⟨.int .u8 (b.toNat:Int),rfl⟩
   have hx3:=hx2.set_other (b':=n4) (by omega) 2 (.int .u8 (b.toNat:Int))
   have hO3:Mem.Own u8V (W2.setCell ⟨n4,2,none⟩ (.int .u8 (b.toNat:Int))) (xb+1) 5 (.slice po l.length ko) l:=hO2.grownO' (grown_set (grown_of_below (Below.refl _ _) (some n4)) 2 _) (fun g hg e=>by injection e with e;have:=hlo g hg;omega)
   have hB3:=below_set hB2 (b:=n4) 2 (by omega) (.int .u8 (b.toNat:Int))
   go_upto_region 8 with (fail)
   generalize (W2.setCell ⟨n4,2,none⟩ (.int .u8 (b.toNat:Int)))=W3 at hce3 hx3 hO3 hB3 ⊢
   clear eb fb hx2 hO2 hB2 ca hce2 hln2
   have eb:W3.cell? ⟨n4,2,none⟩=some (.int .u8 (b.toNat:Int)):=by rw [hce3.cell?];rfl
   have hln:=hce3.lt
   have e5:W3.cell? ⟨xb,5,none⟩=some (.slice po l.length ko):=by rw [hx3.cell?];rfl
   have HK:=Lib.hid (And.intro hx3 (And.intro hO3 hB3))
   refine region_headsT (S:=fun X=>X.cell? ⟨xb,5,none⟩=some (.slice po l.length ko)∧X.cell? ⟨n4,2,none⟩=some (.int .u8 (b.toNat:Int))) 9 rfl (by kernel_rfl) ⟨e5,eb⟩ fun hS=> ?_
   refine tk 0 47 (.pointer (some ⟨xb,0,none⟩)) hS ?_
   refine tk 1 48 (.pointer (some ⟨xb,0,none⟩)) hS ?_
   refine tk 2 49 (.pointer (some ⟨xb,0,none⟩)) hS ?_
   refine tk 3 50 (.pointer (some ⟨xb,5,none⟩)) hS ?_
   refine tk 4 51 (.slice po l.length ko) hS ?_ rfl (qi fun W' h=>by obtain ⟨q0,q1⟩:=h;go_simp)
   refine tk 5 52 (.pointer (some ⟨n4,2,none⟩)) hS ?_
   refine tk 6 53 (.int .u8 (b.toNat:Int)) hS ?_ rfl (qi fun W' h=>by obtain ⟨q0,q1⟩:=h;go_simp)
   refine rdT 7 (fun K' hK=> ?_)
   have lW:xb+1≤W3.drew.heap.size:=HK.out.1.lt
   have hSa:(W3.drew.alloc (.cells #[.int .u8 (b.toNat:Int)] 5)).cell? ⟨xb,5,none⟩=some (.slice po l.length ko)∧(W3.drew.alloc (.cells #[.int .u8 (b.toNat:Int)] 5)).cell? ⟨n4,2,none⟩=some (.int .u8 (b.toNat:Int)):=
    ⟨(((Below.refl W3.drew.heap.size W3.drew).alloc (Nat.le_refl _) _).cell (p:=⟨xb,5,none⟩) lW).trans hS.1,(((Below.refl W3.drew.heap.size W3.drew).alloc (Nat.le_refl _) _).cell (p:=⟨n4,2,none⟩) hln).trans hS.2⟩
   refine valueD (d:=54) (v:= .slice (some ⟨W3.drew.heap.size,0,none⟩) 1 1) (w':=W3.drew.alloc (.cells #[.int .u8 (b.toNat:Int)] 5)) rfl rfl (by first | rfl | kernel_rfl) ?_
   refine hK.out _ _ hSa fun _=> ?_
   clear hK
   simp only [sA,sB,sC]
   refine rdT 8 (fun K' hK=> ?_)
   have hOd:Mem.Own u8V W3.drew (xb+1) 5 (.slice po l.length ko) l:=HK.out.2.1
   refine step_append_one (w:=W3.drew) (l:=l) (v:= .slice po l.length ko) elt8 (.tmp 51) (.tmp 54) 22 rfl rfl rfl u8V_one rfl hOd b (.int .u8 (b.toNat:Int)) rfl 5 rfl (by omega) (by omega) lW (l++[b]) rfl ?_
   intro p3 k3 w3 hO3 hG3 _
   have hlen:(l++[b]).length=l.length+1:=by simp
   rw [hlen] at hO3
   have hG4:W3.grownBy w3 (Value.slice po l.length ko).ownBlock:=(grown_drew (grown_of_below (Below.refl _ _) _)).andThen ((grown_of_below ((Below.refl W3.drew.heap.size W3.drew).alloc (Nat.le_refl _) _) (Value.slice po l.length ko).ownBlock).andThen hG3 (fun j e=> .inr e)) (fun j e=> .inr e)
   have hne:∀g,(Value.slice po l.length ko).ownBlock=some g→xb<g∧g<n4:=fun g hg=>⟨(HK.out.2.1.lt g hg).1,hlo g hg⟩
   have hS3:w3.cell? ⟨xb,5,none⟩=some (.slice po l.length ko)∧w3.cell? ⟨n4,2,none⟩=some (.int .u8 (b.toNat:Int)):=
    ⟨(World.cell?_of_block (a:=⟨xb,5,none⟩) (hG4.block xb (Nat.lt_of_succ_le lW) (fun e=>by have:=(hne _ e.symm).1;omega))).trans hS.1,(World.cell?_of_block (a:=⟨n4,2,none⟩) (hG4.block n4 hln (fun e=>by have:=(hne _ e.symm).2;omega))).trans hS.2⟩
   refine hK.out _ _ hS3 fun _=> ?_
   clear hK hS hSa
   simp only [Act.put,List.setIfInBounds_toArray,List.set_cons_succ,List.set_cons_zero]
   refine headsT_tail (by kernel_rfl) ?_
   simp only [List.drop]
   have hx3:=HK.out.1.grown hG4 (fun e=>by have:=(hne _ e.symm).1;omega)
   have f5:=hx3.frozen 5
   have g5:=hS3.1
   have hB3:Below w0.heap.size w0 w3:=HK.out.2.2.grown hG4 HK.out.2.2.size (fun g e=>by have:=(hne _ e).1;omega)
   have hx4:Row oV (w3.setCell ⟨xb,5,none⟩ (.slice p3 (l.length+1) k3)) xb 128 (stL c.tgt false (slO pc N.cls.length kc) (slO (some ⟨rb,ro,none⟩) N.rows.length kr) (slO pe N.ends.length ke) (slO p3 (l.length+1) k3)):=hx3.set 5 (slO p3 (l.length+1) k3)
   have hO4:Mem.Own u8V (w3.setCell ⟨xb,5,none⟩ (.slice p3 (l.length+1) k3)) (xb+1) 5 (.slice p3 (l.length+1) k3) (l++[b]):=hO3.grownO' (grown_set (grown_of_below (Below.refl _ _) (some xb)) 5 _) (fun g hg e=>by injection e with e;have:=(hO3.lt g hg).1;omega)
   have hB4:Below w0.heap.size w0 (w3.setCell ⟨xb,5,none⟩ (.slice p3 (l.length+1) k3)):=below_set hB3 5 hxb _
   have HF:=Lib.hid (And.intro hx4 (And.intro hO4 hB4))
   clear hx4 hO4 hB4 hx3 hO3 hG3 hG4 hB3 e5 hS3
   go_wp2
   go_end0
   exact ⟨rfl,HF.out.2.2,p3,k3,l++[b],Lib.hid (by rw [hout]),by rw [hlen,hnx,hrf];exact HF.out.1,by rw [hlen];exact HF.out.2.1⟩
  by_cases a2:c.act=2
  ·have hnx:c.next=c.tgt:=by unfold Ce.next;rw [if_neg (by omega)]
   have hrf:c.refuses=false:=decide_eq_false (by omega)
   have hout:c.out b=[c.b]:=by unfold Ce.out;rw [if_neg a0,if_pos a2]
   have eb:W2.cell? ⟨n4,2,none⟩=some (.int .u8 (c.b.toNat:Int)):=by rw [hce2.cell?];rfl
   go_upto_region 8 with (fail)
   clear ca hce2
   have hln:=hln2
   have e5:W2.cell? ⟨xb,5,none⟩=some (.slice po l.length ko):=by rw [hx2.cell?];rfl
   have HK:=Lib.hid (And.intro hx2 (And.intro hO2 hB2))
   refine region_headsT (S:=fun X=>X.cell? ⟨xb,5,none⟩=some (.slice po l.length ko)∧X.cell? ⟨n4,2,none⟩=some (.int .u8 (c.b.toNat:Int))) 9 rfl (by kernel_rfl) ⟨e5,eb⟩ fun hS=> ?_
   refine tk 0 47 (.pointer (some ⟨xb,0,none⟩)) hS ?_
   refine tk 1 48 (.pointer (some ⟨xb,0,none⟩)) hS ?_
   refine tk 2 49 (.pointer (some ⟨xb,0,none⟩)) hS ?_
   refine tk 3 50 (.pointer (some ⟨xb,5,none⟩)) hS ?_
   refine tk 4 51 (.slice po l.length ko) hS ?_ rfl (qi fun W' h=>by obtain ⟨q0,q1⟩:=h;go_simp)
   refine tk 5 52 (.pointer (some ⟨n4,2,none⟩)) hS ?_
   refine tk 6 53 (.int .u8 (c.b.toNat:Int)) hS ?_ rfl (qi fun W' h=>by obtain ⟨q0,q1⟩:=h;go_simp)
   refine rdT 7 (fun K' hK=> ?_)
   have lW:xb+1≤W2.drew.heap.size:=HK.out.1.lt
   have hSa:(W2.drew.alloc (.cells #[.int .u8 (c.b.toNat:Int)] 5)).cell? ⟨xb,5,none⟩=some (.slice po l.length ko)∧(W2.drew.alloc (.cells #[.int .u8 (c.b.toNat:Int)] 5)).cell? ⟨n4,2,none⟩=some (.int .u8 (c.b.toNat:Int)):=
    ⟨(((Below.refl W2.drew.heap.size W2.drew).alloc (Nat.le_refl _) _).cell (p:=⟨xb,5,none⟩) lW).trans hS.1,(((Below.refl W2.drew.heap.size W2.drew).alloc (Nat.le_refl _) _).cell (p:=⟨n4,2,none⟩) hln).trans hS.2⟩
   refine valueD (d:=54) (v:= .slice (some ⟨W2.drew.heap.size,0,none⟩) 1 1) (w':=W2.drew.alloc (.cells #[.int .u8 (c.b.toNat:Int)] 5)) rfl rfl (by first | rfl | kernel_rfl) ?_
   refine hK.out _ _ hSa fun _=> ?_
   clear hK
   simp only [sA,sB,sC]
   refine rdT 8 (fun K' hK=> ?_)
   have hOd:Mem.Own u8V W2.drew (xb+1) 5 (.slice po l.length ko) l:=HK.out.2.1
   refine step_append_one (w:=W2.drew) (l:=l) (v:= .slice po l.length ko) elt8 (.tmp 51) (.tmp 54) 22 rfl rfl rfl u8V_one rfl hOd c.b (.int .u8 (c.b.toNat:Int)) rfl 5 rfl (by omega) (by omega) lW (l++[c.b]) rfl ?_
   intro p3 k3 w3 hO3 hG3 _
   have hlen:(l++[c.b]).length=l.length+1:=by simp
   rw [hlen] at hO3
   have hG4:W2.grownBy w3 (Value.slice po l.length ko).ownBlock:=(grown_drew (grown_of_below (Below.refl _ _) _)).andThen ((grown_of_below ((Below.refl W2.drew.heap.size W2.drew).alloc (Nat.le_refl _) _) (Value.slice po l.length ko).ownBlock).andThen hG3 (fun j e=> .inr e)) (fun j e=> .inr e)
   have hne:∀g,(Value.slice po l.length ko).ownBlock=some g→xb<g∧g<n4:=fun g hg=>⟨(HK.out.2.1.lt g hg).1,hlo g hg⟩
   have hS3:w3.cell? ⟨xb,5,none⟩=some (.slice po l.length ko)∧w3.cell? ⟨n4,2,none⟩=some (.int .u8 (c.b.toNat:Int)):=
    ⟨(World.cell?_of_block (a:=⟨xb,5,none⟩) (hG4.block xb (Nat.lt_of_succ_le lW) (fun e=>by have:=(hne _ e.symm).1;omega))).trans hS.1,(World.cell?_of_block (a:=⟨n4,2,none⟩) (hG4.block n4 hln (fun e=>by have:=(hne _ e.symm).2;omega))).trans hS.2⟩
   refine hK.out _ _ hS3 fun _=> ?_
   clear hK hS hSa
   simp only [Act.put,List.setIfInBounds_toArray,List.set_cons_succ,List.set_cons_zero]
   refine headsT_tail (by kernel_rfl) ?_
   simp only [List.drop]
   have hx3:=HK.out.1.grown hG4 (fun e=>by have:=(hne _ e.symm).1;omega)
   have f5:=hx3.frozen 5
   have g5:=hS3.1
   have hB3:Below w0.heap.size w0 w3:=HK.out.2.2.grown hG4 HK.out.2.2.size (fun g e=>by have:=(hne _ e).1;omega)
   have hx4:Row oV (w3.setCell ⟨xb,5,none⟩ (.slice p3 (l.length+1) k3)) xb 128 (stL c.tgt false (slO pc N.cls.length kc) (slO (some ⟨rb,ro,none⟩) N.rows.length kr) (slO pe N.ends.length ke) (slO p3 (l.length+1) k3)):=hx3.set 5 (slO p3 (l.length+1) k3)
   have hO4:Mem.Own u8V (w3.setCell ⟨xb,5,none⟩ (.slice p3 (l.length+1) k3)) (xb+1) 5 (.slice p3 (l.length+1) k3) (l++[c.b]):=hO3.grownO' (grown_set (grown_of_below (Below.refl _ _) (some xb)) 5 _) (fun g hg e=>by injection e with e;have:=(hO3.lt g hg).1;omega)
   have hB4:Below w0.heap.size w0 (w3.setCell ⟨xb,5,none⟩ (.slice p3 (l.length+1) k3)):=below_set hB3 5 hxb _
   have HF:=Lib.hid (And.intro hx4 (And.intro hO4 hB4))
   clear hx4 hO4 hB4 hx3 hO3 hG3 hG4 hB3 e5 hS3
   go_wp2
   go_end0
   exact ⟨rfl,HF.out.2.2,p3,k3,l++[c.b],Lib.hid (by rw [hout]),by rw [hlen,hnx,hrf];exact HF.out.1,by rw [hlen];exact HF.out.2.1⟩
  by_cases a3:c.act=3
  ·have hnx:c.next=0:=by unfold Ce.next;rw [if_pos a3]
   have hrf:c.refuses=true:=decide_eq_true a3
   have hout:c.out b=[]:=by unfold Ce.out;rw [if_neg a0,if_neg a2]
   have e0:W2.cell? ⟨xb,0,none⟩=some (.int .i64 c.tgt):=by rw [hx2.cell?];rfl
   have e1:W2.cell? ⟨xb,1,none⟩=some (.bool false):=by rw [hx2.cell?];rfl
   have f0:=hx2.frozen 0
   have f1:=hx2.frozen 1
   have hx4:Row oV ((W2.setCell ⟨xb,0,none⟩ (.int .i64 0)).setCell ⟨xb,1,none⟩ (.bool true)) xb 128 (stL 0 true (slO pc N.cls.length kc) (slO (some ⟨rb,ro,none⟩) N.rows.length kr) (slO pe N.ends.length ke) (slO po l.length ko)):=(hx2.set 0 (oi 0)).set 1 (ob true)
   have hO4:Mem.Own u8V ((W2.setCell ⟨xb,0,none⟩ (.int .i64 0)).setCell ⟨xb,1,none⟩ (.bool true)) (xb+1) 5 (.slice po l.length ko) l:=hO2.grownO' (grown_set (grown_set (grown_of_below (Below.refl _ _) (some xb)) 0 _) 1 _) (fun g hg e=>by injection e with e;have:=(hO2.lt g hg).1;omega)
   have hB4:Below w0.heap.size w0 ((W2.setCell ⟨xb,0,none⟩ (.int .i64 0)).setCell ⟨xb,1,none⟩ (.bool true)):=below_set (below_set hB2 0 hxb _) 1 hxb _
   have HF:=Lib.hid (And.intro hx4 (And.intro hO4 hB4))
   clear hx4 hO4 hB4 hx2 hO2 hB2
   go_wp2
   go_end0
   exact ⟨rfl,HF.out.2.2,po,ko,l,Lib.hid (by rw [hout,List.append_nil]),by rw [hnx,hrf];exact HF.out.1,HF.out.2.1⟩
  ·have hnx:c.next=c.tgt:=by unfold Ce.next;rw [if_neg a3]
   have hrf:c.refuses=false:=decide_eq_false a3
   have hout:c.out b=[]:=by unfold Ce.out;rw [if_neg a0,if_neg a2]
   go_wp2
   go_end0
   exact ⟨rfl,hB2,po,ko,l,Lib.hid (by rw [hout,List.append_nil]),by rw [hnx,hrf];exact hx2,hO2⟩
end Go.Proofs.YtncnfncglacheaaGreatDoor
namespace Go.Proofs.YtncnfncglacheaaGreatDoor
open Go Go.RowKit Mem
set_option maxRecDepth 100000
theorem nWriteR (w:World) (xb:Nat) (a:Int) (vc vr ve vo:OC) (b:Value) (hx:Row oV w xb 128 (stL a true vc vr ve vo)):
  Calls Tryz.prog 48 #[.pointer (some ⟨xb,0,none⟩),b] w fun e w'=>e= .returned (.tuple #[])∧w'=w:=by
 have c1:w.cell? ⟨xb,1,none⟩=some (.bool true):=by rw [hx.cell?];rfl
 clear hx
 go_enter Tryz.func48,Tryz.ntmps48
 go_wp2
 exact bodyPost_ret (v:= .tuple #[]) (by simp [results,Tryz.results48,go_sem]) rfl ⟨rfl,rfl⟩
theorem storeD {α:Type} {f:α→Value} {P:Program} {ops:Array Oper} {o:Oper} {a:Act} {w:World} {K:Act→World→Prop} {Q:Exit→Act→World→Prop} {Z:Prop} {ty t:TypeId} {l l':List α} (T:AggT P ty l'.length) (x y:Operand) (hw:Region.wanted o (yielded ops a.tmps)=true) (ho:o.op= .store ty x y) (hd:o.dst=none) (b:Nat) (hx:a.eval x= .pointer (some ⟨b,0,none⟩))
  {C:Array Value} (hC:C=(l'.map f).toArray) (hy:a.eval y= .agg C) (h:Row f w b t l) (hl:l'.length=l.length) (h1:∀x,(f x).oneCell'=true)
  (hk:∀w',Row f w' b t l'→w.grownBy w' (some b)→K a w'):if Region.wanted o (yielded ops a.tmps)=true then Oper.wp P o a w K Q else Z:=by
 subst hC
 obtain ⟨w',hr,h2,h3,h4⟩:=run_store_agg T h hl h1
 rw [if_pos hw]
 unfold Oper.wp execOp
 simp only [ho,hx,hy,Instr.storeAt,Instr.sureAddr,Sem.run_bind,Sem.run_pure,Result.andThen_ok,hr]
 show K (a.put o.dst undef) w'
 rw [hd]
 exact hk w' h2 h3
structure NSt where
 pos:Int
 ref:Bool
 out:List UInt8
def NZ.step (N:NZ) (s:NSt) (b:UInt8):NSt:=if s.ref then s else ⟨(N.cell s.pos.toNat b).next,(N.cell s.pos.toNat b).refuses,s.out++(N.cell s.pos.toNat b).out b⟩
def NZ.run (N:NZ) (s:NSt) (bs:List UInt8):NSt:=bs.foldl N.step s
theorem run_succ (N:NZ) (s:NSt) (bs:List UInt8) (k:Nat) (h:k<bs.length):N.run s (bs.take (k+1))=N.step (N.run s (bs.take k)) bs[k]:=by
 unfold NZ.run
 rw [List.take_succ_eq_append_getElem h,List.foldl_append]
 rfl
theorem out_le (c:Ce) (b:UInt8):(c.out b).length≤1:=by unfold Ce.out;split<;>(try split)<;>simp
theorem step_out (N:NZ) (s:NSt) (b:UInt8):(N.step s b).out.length≤s.out.length+1:=by
 unfold NZ.step
 split
 ·omega
 ·have:=out_le (N.cell s.pos.toNat b) b
  simp
  omega
theorem run_out (N:NZ) (bs:List UInt8):∀s,(N.run s bs).out.length≤s.out.length+bs.length:=by
 induction bs with
 | nil=>intro s;exact Nat.le_refl _
 | cons b bs ih=>
  intro s
  have h1:=ih (N.step s b)
  have h2:=step_out N s b
  show (N.run (N.step s b) bs).out.length≤_
  rw [List.length_cons]
  omega
theorem valid_row {N:NZ} (hv:N.valid=true) (k:Nat) (hk:k<N.rows.length):N.rows[k].length=N.cls.length:=(((valid_iff N).1 hv).2.2.2.2 _ (List.getElem_mem hk)).1
theorem cell_mem {N:NZ} (hv:N.valid=true) (hcov:N.Cov) (k:Nat) (hk:k<N.rows.length) (b:UInt8):N.cell k b∈N.rows[k]:=by
 obtain ⟨i,hil,hi⟩:=hcov b
 have hl:=valid_row hv k hk
 unfold NZ.cell
 rw [hi,List.getElem?_eq_getElem hk]
 show (N.rows[k][(i:Int).toNat]?).getD _∈_
 rw [show (i:Int).toNat=i by simp,List.getElem?_eq_getElem (by omega)]
 exact List.getElem_mem _
theorem next_lt {N:NZ} (hv:N.valid=true) (hcov:N.Cov) (k:Nat) (hk:k<N.rows.length) (b:UInt8):0≤(N.cell k b).next∧(N.cell k b).next<(N.rows.length:Int):=by
 have hb:=(((valid_iff N).1 hv).2.2.2.2 _ (List.getElem_mem hk)).2
 rw [List.any_eq_false] at hb
 have h:=hb _ (cell_mem hv hcov k hk b)
 have h2:¬((N.cell k b).tgt<0∨(N.rows.length:Int)≤(N.cell k b).tgt∨(N.cell k b).act<0∨3<(N.cell k b).act∨(N.cell k b).act≠2∧((N.cell k b).b.toNat:Int)≠0):=fun hh=>h (decide_eq_true hh)
 unfold Ce.next
 split<;>omega
theorem step_pos {N:NZ} (hv:N.valid=true) (hcov:N.Cov) (s:NSt) (h:0≤s.pos∧s.pos<(N.rows.length:Int)) (b:UInt8):0≤(N.step s b).pos∧(N.step s b).pos<(N.rows.length:Int):=by
 unfold NZ.step
 split
 ·exact h
 ·exact next_lt hv hcov _ (by omega) b
theorem aggNS:AggT Tryz.prog 48 2:=⟨fun _=>by kernel_rfl,fun _=>by kernel_rfl⟩
set_option maxHeartbeats 16000000 in
theorem nFeedG (w:World) (N:NZ) (pc pr pe pu:Option Addr) (kc kr ke ku:Nat) (at_:Int) (r:Bool) (bs:List UInt8) (hv:NzAt w (.agg #[.slice pc N.cls.length kc, .slice pr N.rows.length kr, .slice pe N.ends.length ke]) N) (hu:Rd u8V w (.slice pu bs.length ku) bs) (hbs:bs.length≤140737488351232) (hcov:N.valid=true→N.Cov):
  Calls Tryz.prog 13 #[.agg #[.slice pc N.cls.length kc, .slice pr N.rows.length kr, .slice pe N.ends.length ke], .agg #[.int .i64 at_, .bool r], .slice pu bs.length ku] w fun e w'=>Below w.heap.size w w'∧
   ((N.okAt at_=false∧e= .returned (.tuple #[.agg #[.int .i64 0, .bool false], .slice none 0 0]))∨
   (N.okAt at_=true∧∃s,Hid (s=N.run ⟨at0 r at_,r,[]⟩ bs)∧∃po ko,e= .returned (.tuple #[.agg #[.int .i64 s.pos, .bool s.ref], .slice po s.out.length ko])∧Mem.Own u8V w' w.heap.size 5 (.slice po s.out.length ko) s.out)):=by
 have HV:=Lib.hid hv
 have HU:=Lib.hid hu
 clear hv hu
 go_enter Tryz.func13,Tryz.ntmps13
 go_upto_region 1 with (fail)
 obtain ⟨W,hW,hB,hs,g0,g1,g2⟩:∃W,(((w.alloc (.cells #[.slice pc N.cls.length kc, .slice pr N.rows.length kr, .slice pe N.ends.length ke] 37)).alloc (.cells #[.int .i64 at_, .bool r] 48)).alloc (.cells #[.int .i64 0, .bool false] 48))=W∧Below w.heap.size w W∧w.heap.size+3≤W.heap.size∧W.heap[w.heap.size]?=some (.cells #[.slice pc N.cls.length kc, .slice pr N.rows.length kr, .slice pe N.ends.length ke] 37 (0,0))∧W.heap[w.heap.size+1]?=some (.cells #[.int .i64 at_, .bool r] 48 (0,0))∧W.heap[w.heap.size+1+1]?=some (.cells #[.int .i64 0, .bool false] 48 (0,0)):=by
  refine ⟨_,rfl,below_al (below_al (below_al (Below.refl _ _) (Nat.le_refl _) _) (Nat.le_refl _) _) (Nat.le_refl _) _,by simp,?_,?_,?_⟩
  all_goals repeat (first | (refine heap_new' _ _ _ ?_;(simp;done)) | (refine (Below.heap_alloc _ _ _ ?_).trans ?_;·(simp<;>omega)))
 rw [hW]
 clear hW
 have rz:Row oV W (w.heap.size+1+1) 48 [oi 0,ob false]:=g2
 have c0:W.cell? ⟨w.heap.size,0,none⟩=some (.slice pc N.cls.length kc):=by unfold World.cell?;rw [g0];rfl
 have c1:W.cell? ⟨w.heap.size,1,none⟩=some (.slice pr N.rows.length kr):=by unfold World.cell?;rw [g0];rfl
 have c2:W.cell? ⟨w.heap.size,2,none⟩=some (.slice pe N.ends.length ke):=by unfold World.cell?;rw [g0];rfl
 have s0:W.cell? ⟨w.heap.size+1,0,none⟩=some (.int .i64 at_):=by unfold World.cell?;rw [g1];rfl
 have s1:W.cell? ⟨w.heap.size+1,1,none⟩=some (.bool r):=by unfold World.cell?;rw [g1];rfl
 clear g0 g1 g2
 go_wp2_with fail
 refine (nOpen W N pc pr pe kc kr ke at_ r (HV.out.below hB)).mono ?_
 rintro e W1 ⟨hB1,⟨hno,rfl⟩ | ⟨hok,xb,rfl,hxb,hx⟩⟩
 ·have rz1:=rz.below hB1 rz.lt
  have hBw:=hB.trans (hB1.mono hB.size)
  have HNO:=Lib.hid hno
  clear hno c0 c1 c2 s0 s1 rz hB1 hB
  go_wp2_with (first
   | ((with_reducible refine zS (l':=[oi 0,ob false]) rz1 aggNS ?_);(intro W2 hs2 hG2 hz2)))
  refine bodyPost_ret (v:= .tuple #[.agg #[.int .i64 0, .bool false], .slice none 0 0]) (results_agg2 (f:=oV) (l:=[oi 0,ob false]) (t:=7) rfl _ aggNS (w.heap.size+1+1) 0 rfl hs2.at) rfl ?_
  exact ⟨hBw.grown hG2 hBw.size (fun k e=>by cases e;omega), .inl ⟨HNO.out,rfl⟩⟩
 ·have hval:N.valid=true:=by unfold NZ.okAt at hok;rw [Bool.and_eq_true] at hok;exact hok.1
  have hat:0≤at_∧at_<(N.rows.length:Int):=by unfold NZ.okAt at hok;rw [Bool.and_eq_true] at hok;exact of_decide_eq_true hok.2
  have HOK:=Lib.hid (And.intro hok (And.intro hval hat))
  have hl1:=hx.lt
  clear hok hval hat c0 c1 c2 s0 s1
  have HZ:=Lib.hid rz
  clear rz
  have HW:=Lib.hid (HV.out.below hB)
  have HB:=Lib.hid (And.intro hB hs)
  have h00:0≤at0 r at_∧at0 r at_<(N.rows.length:Int):=by have:=HOK.out.2.2;unfold at0;split<;>omega
  have HU1:Hid (Rd u8V W (.slice pu bs.length ku) bs):=Lib.hid (HU.out.below hB)
  go_wp2_with fail
  go_loopw [23] (fun i wr=>∃(k:Nat) (s:NSt) (po:Option Addr) (ko:Nat),k≤bs.length∧i= .int .i64 k∧Hid (s=N.run ⟨at0 r at_,r,[]⟩ (bs.take k))∧(0≤s.pos∧s.pos<(N.rows.length:Int))∧Row oV wr xb 128 (stL s.pos s.ref (slO pc N.cls.length kc) (slO pr N.rows.length kr) (slO pe N.ends.length ke) (slO po s.out.length ko))∧Mem.Own u8V wr (xb+1) 5 (.slice po s.out.length ko) s.out∧Below W.heap.size W wr) (fun i _=>bs.length - (intOf i).toNat)
  case atStart=>exact ⟨0,⟨at0 r at_,r,[]⟩,none,0,by omega,rfl,Lib.hid rfl,h00,hx,Own.nil _ _ _,hB1⟩
  case round=>
   clear hx hB1 hl1 hB hs h00
   obtain ⟨k,s,po,ko,hk,rfl,hs,hpos,hx,hO,hX⟩:=hrel
   have HP:=Lib.hid hpos
   have HRO:=Lib.hid (And.intro hx hO)
   have lx:=hx.lt
   clear hpos hx hO
   by_cases hlt:k<bs.length
   ·obtain ⟨bu,ou,rfl,hA,lbu⟩:∃b o,pu=some ⟨b,o,none⟩∧At u8V W b o bs∧b<W.heap.size:=by
     rcases HU1.out with ⟨_,_,h0⟩ | ⟨b,o,cap,h1,_,ha,hl⟩
     ·rw [h0] at hlt;simp at hlt
     ·cases h1;exact ⟨b,o,rfl,ha,hl⟩
    have cb:wr.cell? ⟨bu,ou+k,none⟩=some (.int .u8 (bs[k].toNat:Int)):=((hX.cell (p:=⟨bu,ou+k,none⟩) lbu).trans (hA k hlt)).trans (by rw [List.getElem?_eq_getElem hlt];rfl)
    have hq:(k:Int)<(bs.length:Int):=by omega
    clear hA
    go_wp2_with fail
    have hrun:=run_succ N ⟨at0 r at_,r,[]⟩ bs k hlt
    rw [← hs.out] at hrun
    have HRUN:=Lib.hid hrun
    clear hrun cb
    cases hr:s.ref with
    | true=>
     have hx:=HRO.out.1
     rw [hr] at hx
     refine (nWriteR wr xb s.pos _ _ _ _ _ hx).mono ?_
     rintro e w2 ⟨rfl,rfl⟩
     have hst:N.step s bs[k]=s:=by unfold NZ.step;rw [if_pos hr]
     go_wp2_with fail
     go_roundw
     case rel=>exact ⟨k+1,s,po,ko,by omega,by go_num,Lib.hid (by rw [HRUN.out,hst]),HP.out,HRO.out.1,HRO.out.2,hX⟩
     case measure=>simp [intOf];omega
    | false=>
     obtain ⟨n,hn⟩:∃n:Nat,s.pos=(n:Int):=⟨s.pos.toNat,by have:=HP.out;omega⟩
     have hnl:n<N.rows.length:=by have:=HP.out;omega
     have hx:=HRO.out.1
     rw [hr,hn] at hx
     have hcl:N.cls.length≤256:=((valid_iff N).1 HOK.out.2.1).1.1
     have hol:s.out.length≤140737488351232:=by
      rw [hs.out]
      have:=run_out N (bs.take k) ⟨at0 r at_,r,[]⟩
      rw [List.length_take] at this
      have h0:(⟨at0 r at_,r,[]⟩:NSt).out.length=0:=rfl
      omega
     refine (nWrite W wr N xb n pc pr pe po kc kr ke ko s.out bs[k] HW.out hX hxb hx HRO.out.2 hnl (hcov HOK.out.2.1) (valid_row HOK.out.2.1 n hnl) hcl hol).mono ?_
     rintro e w2 ⟨rfl,hX2,po2,ko2,l2,hl2,hx2,hO2⟩
     have hst:N.step s bs[k]=⟨(N.cell n bs[k]).next,(N.cell n bs[k]).refuses,l2⟩:=by
      unfold NZ.step
      rw [if_neg (by rw [hr];decide),hn,hl2.out]
      rfl
     have hp2:=step_pos HOK.out.2.1 (hcov HOK.out.2.1) s HP.out bs[k]
     rw [hst] at hp2
     have HF:=Lib.hid (And.intro hx2 (And.intro hO2 (And.intro hX2 hp2)))
     clear hx2 hO2 hX2 hp2 hx
     go_wp2_with fail
     go_roundw
     case rel=>exact ⟨k+1,⟨(N.cell n bs[k]).next,(N.cell n bs[k]).refuses,l2⟩,po2,ko2,by omega,by go_num,Lib.hid (by rw [HRUN.out,hst]),HF.out.2.2.2,HF.out.1,HF.out.2.1,HF.out.2.2.1⟩
     case measure=>simp [intOf];omega
   ·have hke:k=bs.length:=by omega
    have hs':Hid (s=N.run ⟨at0 r at_,r,[]⟩ bs):=Lib.hid (by rw [hs.out,List.take_of_length_le (by omega)])
    have hq:¬(k:Int)<(bs.length:Int):=by omega
    go_upto_region 9 with (fail)
    have rz1:Row oV wr (w.heap.size+1+1) 48 [oi 0,ob false]:=HZ.out.below hX HZ.out.lt
    have hq0:At oV wr xb 0 [oi s.pos,ob s.ref]∧wr.cell? ⟨xb,5,none⟩=some (.slice po s.out.length ko):=by
     have h:=HRO.out.1
     refine ⟨fun i hi=> ?_,by rw [h.cell?];rfl⟩
     rcases (by simp at hi;omega:i=0∨i=1) with rfl | rfl<;>(rw [h.cell?];rfl)
    refine wp_region_held_drew (S:=fun X=>At oV X xb 0 [oi s.pos,ob s.ref]∧X.cell? ⟨xb,5,none⟩=some (.slice po s.out.length ko)) rfl hq0 fun hS=> ?_
    refine tkD 0 31 (.pointer (some ⟨xb,0,none⟩)) hS ?_
    refine tkD 1 32 (.pointer (some ⟨xb,0,none⟩)) hS ?_
    refine tkD 2 33 (.pointer (some ⟨xb,0,none⟩)) hS ?_
    refine tkD 3 34 (.agg #[.int .i64 s.pos, .bool s.ref]) hS ?_ rfl (yieldsIf_load (f:=oV) (l:=[oi s.pos,ob s.ref]) aggNS (.tmp 33) rfl xb 0 rfl (fun W' h=>h.1) rfl rfl)
    refine tkD 4 35 (.pointer (some ⟨xb,0,none⟩)) hS ?_
    refine tkD 5 36 (.pointer (some ⟨xb,0,none⟩)) hS ?_
    refine tkD 6 37 (.pointer (some ⟨xb,5,none⟩)) hS ?_
    refine tkD 7 38 (.slice po s.out.length ko) hS ?_ rfl (qi fun W' h=>by have q0:=h.2;go_simp)
    have hBw:Below w.heap.size w wr.drew:=(HB.out.1.trans (hX.mono HB.out.1.size)).drew
    have hOw:Mem.Own u8V wr.drew (xb+1) 5 (.slice po s.out.length ko) s.out:=HRO.out.2
    have hne:∀g,(Value.slice po s.out.length ko).ownBlock=some g→some g≠some (w.heap.size+1+1):=fun g hg e=>by injection e with e;have h1:=(hOw.lt g hg).1;have h2:=HB.out.2;omega
    have hwl:w.heap.size≤xb+1:=by have h2:=HB.out.2;omega
    have hxw:xb≠w.heap.size+1+1:=by have h2:=HB.out.2;omega
    have rz2:=rz1.drew
    have lx2:xb<wr.drew.heap.size:=lx
    generalize wr.drew=Y at rz2 hBw hOw hS lx2 ⊢
    refine rdH 8 (fun K' hK=> ?_)
    refine storeD (f:=oV) (l:=[oi 0,ob false]) (l':=[oi s.pos,ob s.ref]) (t:=48) (C:= #[.int .i64 s.pos, .bool s.ref]) aggNS (.tmp 6) (.tmp 34) rfl rfl rfl (w.heap.size+1+1) rfl rfl rfl rz2 rfl oV_one ?_
    intro W2 hs2 hG2
    replace hS:=And.intro (hS.1.grown hG2 lx2 (by intro e;injection e with e;exact hxw e)) ((World.cell?_of_block (a:=⟨xb,5,none⟩) (hG2.block xb lx2 (by intro e;injection e with e;exact hxw e))).trans hS.2)
    refine hK.out _ _ hS fun _=> ?_
    clear hK
    refine tkD 9 7 (.slice po s.out.length ko) hS ?_
    refine wpAnyH_done (by kernel_rfl) ?_ _
    go_wp2
    refine bodyPost_ret (v:= .tuple #[.agg #[.int .i64 s.pos, .bool s.ref], .slice po s.out.length ko]) (results_agg2 (f:=oV) (l:=[oi s.pos,ob s.ref]) (t:=7) rfl _ aggNS (w.heap.size+1+1) 0 rfl hs2.at) rfl ?_
    exact ⟨hBw.grown hG2 hBw.size (fun k e=>by cases e;omega), .inr ⟨HOK.out.1,s,hs',po,ko,rfl,(hOw.grownO' hG2 hne).mono hwl⟩⟩
end Go.Proofs.YtncnfncglacheaaGreatDoor
namespace Go.Proofs.YtncnfncglacheaaGreatDoor
open Go Go.RowKit Mem
set_option maxRecDepth 100000
def NZ.fin (N:NZ) (at_:Int) (r:Bool):Bool:=N.okAt at_ && (!r && (N.ends[at_.toNat]?.getD false))
set_option maxHeartbeats 8000000 in
theorem nFinish (w:World) (N:NZ) (pc pr pe:Option Addr) (kc kr ke:Nat) (at_:Int) (r:Bool) (hv:NzAt w (.agg #[.slice pc N.cls.length kc, .slice pr N.rows.length kr, .slice pe N.ends.length ke]) N):
  Calls Tryz.prog 18 #[.agg #[.slice pc N.cls.length kc, .slice pr N.rows.length kr, .slice pe N.ends.length ke], .agg #[.int .i64 at_, .bool r]] w fun e w'=>e= .returned (.bool (N.fin at_ r))∧Below w.heap.size w w':=by
 have HV:=Lib.hid hv
 have HE:Hid (Rd Value.bool w (.slice pe N.ends.length ke) N.ends):=Lib.hid (by
  obtain ⟨vc,vr,ve,he,h1,h2,h3⟩:=hv
  obtain ⟨rfl,rfl,rfl⟩: .slice pc N.cls.length kc=vc∧ .slice pr N.rows.length kr=vr∧ .slice pe N.ends.length ke=ve:=by
   have:=congrArg (fun v=>match v with | Value.agg a=>a.toList | _=>[]) he
   simpa using this
  exact h3)
 clear hv
 go_enter Tryz.func18,Tryz.ntmps18
 go_upto_region 1 with (fail)
 obtain ⟨W,hW,hB,hs,g0,g1⟩:∃W,((w.alloc (.cells #[.slice pc N.cls.length kc, .slice pr N.rows.length kr, .slice pe N.ends.length ke] 37)).alloc (.cells #[.int .i64 at_, .bool r] 48))=W∧Below w.heap.size w W∧w.heap.size+2≤W.heap.size∧W.heap[w.heap.size]?=some (.cells #[.slice pc N.cls.length kc, .slice pr N.rows.length kr, .slice pe N.ends.length ke] 37 (0,0))∧W.heap[w.heap.size+1]?=some (.cells #[.int .i64 at_, .bool r] 48 (0,0)):=by
  refine ⟨_,rfl,below_al (below_al (Below.refl _ _) (Nat.le_refl _) _) (Nat.le_refl _) _,by simp,?_,?_⟩
  all_goals repeat (first | (refine heap_new' _ _ _ ?_;(simp;done)) | (refine (Below.heap_alloc _ _ _ ?_).trans ?_;·(simp<;>omega)))
 rw [hW]
 clear hW
 have c0:W.cell? ⟨w.heap.size,0,none⟩=some (.slice pc N.cls.length kc):=by unfold World.cell?;rw [g0];rfl
 have c1:W.cell? ⟨w.heap.size,1,none⟩=some (.slice pr N.rows.length kr):=by unfold World.cell?;rw [g0];rfl
 have c2:W.cell? ⟨w.heap.size,2,none⟩=some (.slice pe N.ends.length ke):=by unfold World.cell?;rw [g0];rfl
 have s0:W.cell? ⟨w.heap.size+1,0,none⟩=some (.int .i64 at_):=by unfold World.cell?;rw [g1];rfl
 have s1:W.cell? ⟨w.heap.size+1,1,none⟩=some (.bool r):=by unfold World.cell?;rw [g1];rfl
 clear g0 g1 hs
 go_wp2_with fail
 refine (nOpen W N pc pr pe kc kr ke at_ r (HV.out.below hB)).mono ?_
 rintro e W1 ⟨hB1,⟨hno,rfl⟩ | ⟨hok,xb,rfl,hxb,hx⟩⟩
 ·have hf:N.fin at_ r=false:=by unfold NZ.fin;rw [hno];rfl
  have hBw:=hB.trans (hB1.mono hB.size)
  clear hno
  go_wp2
  go_ret
  exact ⟨by first | rfl | (rw [hf];rfl),hBw⟩
 ·have hval:N.valid=true:=by unfold NZ.okAt at hok;rw [Bool.and_eq_true] at hok;exact hok.1
  have hat:0≤at_∧at_<(N.rows.length:Int):=by unfold NZ.okAt at hok;rw [Bool.and_eq_true] at hok;exact of_decide_eq_true hok.2
  have hel:N.ends.length=N.rows.length:=((valid_iff N).1 hval).1.2.2.2
  obtain ⟨k,hk⟩:∃k:Nat,at0 r at_=(k:Int):=⟨(at0 r at_).toNat,by unfold at0;split<;>omega⟩
  have hkl:k<N.ends.length:=by unfold at0 at hk;split at hk<;>omega
  have hf:N.fin at_ r=(!r && N.ends[k]):=by
   unfold NZ.fin
   rw [hok,Bool.true_and]
   cases r with
   | true=>rfl
   | false=>
    have:at_=(k:Int):=hk
    rw [this]
    show (true && (N.ends[(k:Int).toNat]?).getD false)=_
    rw [show (k:Int).toNat=k by simp,List.getElem?_eq_getElem hkl]
    rfl
  have HF:=Lib.hid hf
  rw [hk] at hx
  have hBw:=hB.trans (hB1.mono hB.size)
  have hE1:=(HE.out.below hB).below hB1
  clear hok hf hval hat hk c0 c1 c2 s0 s1
  go_wp2_with fail
  refine (nAccepted W1 xb k r _ _ _ pe ke N.ends hx hE1 hkl).mono ?_
  rintro e W2 ⟨rfl,hB2⟩
  have hBx:=hBw.trans (hB2.mono hBw.size)
  go_wp2
  go_ret
  exact ⟨by rw [HF.out];rfl,hBx⟩
def NZ.acc (N:NZ) (bs:List UInt8):Bool:=N.okAt 0 && N.fin (N.run ⟨0,false,[]⟩ bs).pos (N.run ⟨0,false,[]⟩ bs).ref
set_option maxHeartbeats 8000000 in
theorem nRunG (w:World) (N:NZ) (pc pr pe pu:Option Addr) (kc kr ke ku:Nat) (bs:List UInt8) (hv:NzAt w (.agg #[.slice pc N.cls.length kc, .slice pr N.rows.length kr, .slice pe N.ends.length ke]) N) (hu:Rd u8V w (.slice pu bs.length ku) bs) (hbs:bs.length≤140737488351232) (hcov:N.valid=true→N.Cov):
  Calls Tryz.prog 19 #[.agg #[.slice pc N.cls.length kc, .slice pr N.rows.length kr, .slice pe N.ends.length ke], .slice pu bs.length ku] w fun e w'=>Below w.heap.size w w'∧
   ((N.acc bs=false∧e= .returned (.tuple #[.slice none 0 0, .bool false]))∨
   (N.acc bs=true∧∃l,Hid (l=(N.run ⟨0,false,[]⟩ bs).out)∧∃po ko,e= .returned (.tuple #[.slice po l.length ko, .bool true])∧Mem.Own u8V w' w.heap.size 5 (.slice po l.length ko) l)):=by
 have HV:=Lib.hid hv
 have HU:=Lib.hid hu
 clear hv hu
 go_enter Tryz.func19,Tryz.ntmps19
 go_upto_region 1 with (fail)
 obtain ⟨W,hW,hB,hs,g0⟩:∃W,(w.alloc (.cells #[.slice pc N.cls.length kc, .slice pr N.rows.length kr, .slice pe N.ends.length ke] 37))=W∧Below w.heap.size w W∧w.heap.size+1≤W.heap.size∧W.heap[w.heap.size]?=some (.cells #[.slice pc N.cls.length kc, .slice pr N.rows.length kr, .slice pe N.ends.length ke] 37 (0,0)):=
  ⟨_,rfl,below_al (Below.refl _ _) (Nat.le_refl _) _,by simp,World.alloc_heap_new _ _⟩
 rw [hW]
 clear hW
 have HC:Hid (∀X,Below W.heap.size W X→X.cell? ⟨w.heap.size,0,none⟩=some (.slice pc N.cls.length kc)∧X.cell? ⟨w.heap.size,1,none⟩=some (.slice pr N.rows.length kr)∧X.cell? ⟨w.heap.size,2,none⟩=some (.slice pe N.ends.length ke)):=Lib.hid fun X hX=>by
  have h:=(hX.block w.heap.size (by omega)).trans g0
  refine ⟨?_,?_,?_⟩<;>(unfold World.cell?;rw [h];rfl)
 clear g0
 obtain ⟨c0,c1,c2⟩:=HC.out W (Below.refl _ _)
 go_wp2_with fail
 refine (nFeedG W N pc pr pe pu kc kr ke ku 0 false bs (HV.out.below hB) (HU.out.below hB) hbs hcov).mono ?_
 rintro e W1 ⟨hB1,⟨hno,rfl⟩ | ⟨hok,s,hsr,po,ko,rfl,hO⟩⟩
 ·have hacc:N.acc bs=false:=by unfold NZ.acc;rw [hno];rfl
  have HB:=Lib.hid hB1
  have hX1:=hB1.alloc hB1.size (.cells #[.int .i64 0, .bool false] 48)
  have HNO:=Lib.hid (And.intro hno hacc)
  clear c0 c1 c2 hno hacc
  obtain ⟨c0,c1,c2⟩:=HC.out _ hX1
  go_wp2_with fail
  refine (nFinish _ N pc pr pe kc kr ke 0 false (HV.out.below (hB.trans (hX1.mono hB.size)))).mono ?_
  rintro e W2 ⟨rfl,hB2⟩
  have hf:N.fin 0 false=false:=by unfold NZ.fin;rw [HNO.out.1];rfl
  rw [hf]
  have hBx:=(hB.trans (hX1.mono hB.size)).trans (hB2.mono (hB.trans (hX1.mono hB.size)).size)
  clear hf
  go_wp2
  go_ret2
  exact ⟨hBx, .inl ⟨HNO.out.2,rfl⟩⟩
 ·have hsr':s=N.run ⟨0,false,[]⟩ bs:=hsr.out
  have hX1:=hB1.alloc hB1.size (.cells #[.int .i64 s.pos, .bool s.ref] 48)
  have hacc:N.acc bs=N.fin s.pos s.ref:=by unfold NZ.acc;rw [hok,← hsr'];rfl
  have HA:=Lib.hid (And.intro hacc hsr')
  have HO:=Lib.hid (hO.alloc (.cells #[.int .i64 s.pos, .bool s.ref] 48))
  clear c0 c1 c2 hok hacc hsr hsr' hO
  obtain ⟨c0,c1,c2⟩:=HC.out _ hX1
  go_wp2_with fail
  refine (nFinish _ N pc pr pe kc kr ke s.pos s.ref (HV.out.below (hB.trans (hX1.mono hB.size)))).mono ?_
  rintro e W2 ⟨rfl,hB2⟩
  have hBx:=(hB.trans (hX1.mono hB.size)).trans (hB2.mono (hB.trans (hX1.mono hB.size)).size)
  have HO2:=Lib.hid ((HO.out.below' hB2).mono hB.size)
  cases hf:N.fin s.pos s.ref with
  | false=>
   have hacc:=HA.out.1.trans hf
   have HAC:=Lib.hid hacc
   clear hacc hf
   go_wp2
   go_ret2
   exact ⟨hBx, .inl ⟨HAC.out,rfl⟩⟩
  | true=>
   have hacc:=HA.out.1.trans hf
   have HAC:=Lib.hid hacc
   clear hacc hf
   go_wp2
   go_ret2
   exact ⟨hBx, .inr ⟨HAC.out,s.out,Lib.hid (by rw [HA.out.2]),po,ko,rfl,HO2.out⟩⟩
end Go.Proofs.YtncnfncglacheaaGreatDoor
namespace Go.Proofs.YtncnfncglacheaaGreatDoor
open Go Go.RowKit Mem
set_option maxRecDepth 100000
end Go.Proofs.YtncnfncglacheaaGreatDoor
namespace Go.Proofs.YtncnfncglacheaaGreatDoor
open Go Go.RowKit Mem
set_option maxRecDepth 100000
theorem mem_div (x:UInt64) (r:Nat):((X x / 2 ^ r) % 2==1)=x.toNat.testBit r:=by
 unfold X
 rw [Nat.testBit_eq_decide_div_mod_eq]
 have h:(x.toNat:Int) / 2 ^ r % 2=((x.toNat / 2 ^ r % 2:Nat):Int):=by simp
 rw [h,Bool.eq_iff_iff]
 simp
 omega
set_option maxHeartbeats 4000000 in
theorem rHas (w:World) (c:Cl) (b:UInt8):Calls Tryz.prog 77 #[.agg (clA c), .int .u8 (b.toNat:Int)] w fun e w'=>e= .returned (.bool (c.mem b.toNat))∧Below w.heap.size w w':=by
 obtain ⟨q,r,hq,hr,hn⟩:∃q r,q<4∧r<64∧b.toNat=64 * q+r:=⟨b.toNat / 64,b.toNat % 64,by have:=b.toNat_lt;omega,by omega,by omega⟩
 have hh:c.mem b.toNat=(c.w q).toNat.testBit r:=by rw [hn];exact c.mem_at q r hr
 rw [hh]
 have hrow:Row oV (w.alloc (.cells (clA c) 65)) w.heap.size 65 (clL c):=Row.new _ _ rfl
 have hB:Below w.heap.size w (w.alloc (.cells (clA c) 65)):=(Below.refl _ _).alloc (Nat.le_refl _) _
 have hc:(w.alloc (.cells (clA c) 65)).cell? ⟨w.heap.size,q,none⟩=some (.int .u64 (X (c.w q))):=by rw [hrow.cell?,clL_get c q hq];rfl
 have d1:((b.toNat:Int)).tdiv 64=(q:Int):=by rw [hn,Int.tdiv_eq_ediv_of_nonneg (by omega)];omega
 have d2:((b.toNat:Int)).tmod 64=(r:Int):=by rw [hn,Int.tmod_eq_emod_of_nonneg (by omega)];omega
 have d3:(b.toNat:Int) / 64=(q:Int):=by omega
 have d4:(b.toNat:Int) % 64=(r:Int):=by omega
 have x0:=X_nonneg (c.w q>>>UInt64.ofNat r)
 have x1:=X_shr (c.w q) r hr
 have x2:(X (c.w q>>>UInt64.ofNat r)).tmod 2=X (c.w q>>>UInt64.ofNat r) % 2:=Int.tmod_eq_emod_of_nonneg x0
 clear hn hrow hh
 go_enter Tryz.func77,Tryz.ntmps77
 go_upto_region 1 with (fail)
 generalize (w.alloc (.cells (clA c) 65))=W at hB hc ⊢
 have hq':(q:Int)<4:=by omega
 go_wp2_with fail
 go_ret
 exact ⟨by rw [← mem_div,x1];rfl,hB⟩
set_option maxHeartbeats 4000000 in
theorem rWith (w:World) (c:Cl) (b:UInt8):Calls Tryz.prog 76 #[.agg (clA c), .int .u8 (b.toNat:Int)] w fun e w'=>e= .returned (.agg (clA (c.add b.toNat)))∧Below w.heap.size w w':=by
 obtain ⟨q,r,hq,hr,hn⟩:∃q r,q<4∧r<64∧b.toNat=64 * q+r:=⟨b.toNat / 64,b.toNat % 64,by have:=b.toNat_lt;omega,by omega,by omega⟩
 have hh:c.add b.toNat=c.setW q (c.w q ||| ((1:UInt64)<<<UInt64.ofNat r)):=by
  unfold Cl.add
  rw [show b.toNat / 64=q by omega,show b.toNat % 64=r by omega]
 rw [hh]
 have hset:(clL c).set q (ow (X (c.w q ||| ((1:UInt64)<<<UInt64.ofNat r))))=clL (c.setW q (c.w q ||| ((1:UInt64)<<<UInt64.ofNat r))):=by
  rcases (by omega:q=0∨q=1∨q=2∨q=3) with rfl | rfl | rfl | rfl<;>rfl
 have d1:((b.toNat:Int)).tdiv 64=(q:Int):=by rw [hn,Int.tdiv_eq_ediv_of_nonneg (by omega)];omega
 have d2:((b.toNat:Int)).tmod 64=(r:Int):=by rw [hn,Int.tmod_eq_emod_of_nonneg (by omega)];omega
 have d3:(b.toNat:Int) / 64=(q:Int):=by omega
 have d4:(b.toNat:Int) % 64=(r:Int):=by omega
 have x1:=X_pow r hr
 have x2:=X_or (c.w q) ((1:UInt64)<<<UInt64.ofNat r)
 have hq':(q:Int)<4:=by omega
 clear hn hh
 go_enter Tryz.func76,Tryz.ntmps76
 go_upto_region 1 with (fail)
 obtain ⟨W,hW,hB,hs,r2,r4⟩:∃W,((w.alloc (.cells (clA c) 65)).alloc (.cells #[.int .u64 0, .int .u64 0, .int .u64 0, .int .u64 0] 65))=W∧Below w.heap.size w W∧w.heap.size+2≤W.heap.size∧Row oV W w.heap.size 65 (clL c)∧Row oV W (w.heap.size+1) 65 [ow 0,ow 0,ow 0,ow 0]:=by
  refine ⟨_,rfl,below_al (below_al (Below.refl _ _) (Nat.le_refl _) _) (Nat.le_refl _) _,by simp,?_,?_⟩
  all_goals repeat (first | (refine heap_new' _ _ _ ?_;(simp;done)) | (refine (Below.heap_alloc _ _ _ ?_).trans ?_;·(simp<;>omega)))
 rw [hW]
 clear hW
 have hc:W.cell? ⟨w.heap.size,q,none⟩=some (.int .u64 (X (c.w q))):=by rw [r2.cell?,clL_get c q hq];rfl
 have f2:=r2.frozen q
 go_upto_region 3 with (fail)
 generalize hv:(c.w q ||| ((1:UInt64)<<<UInt64.ofNat r))=v at *
 have hB2:=below_set hB (b:=w.heap.size) q (Nat.le_refl _) (.int .u64 (X v))
 have s2:Row oV (W.setCell ⟨w.heap.size,q,none⟩ (.int .u64 (X v))) w.heap.size 65 (clL (c.setW q v)):=by
  rw [← hset];exact r2.set q (ow (X v))
 have s4:=r4.set_other (b':=w.heap.size) (by omega) q (.int .u64 (X v))
 generalize (W.setCell ⟨w.heap.size,q,none⟩ (.int .u64 (X v)))=W2 at *
 go_wp2_with (first
  | ((with_reducible refine zL s2.at aggCl rfl (C:=clA (c.setW q v)) ?_))
  | ((with_reducible refine zS (l':=clL (c.setW q v)) s4 aggCl ?_);(intro W6 hs6 hG6 hz6)))
 refine bodyPost_ret (results_agg (f:=oV) (l:=clL (c.setW q v)) rfl _ aggCl (w.heap.size+1) 0 rfl hs6.at) rfl ?_
 exact ⟨by rw [hv];rfl,hB2.grown hG6 hB2.size (fun k e=>by cases e;omega)⟩
end Go.Proofs.YtncnfncglacheaaGreatDoor
namespace Go.Proofs.YtncnfncglacheaaGreatDoor
open Go Go.RowKit Mem
set_option maxRecDepth 100000
def Cl.compl (a:Cl):Cl:=fillC (fun i=> !a.mem i) 256
set_option maxHeartbeats 8000000 in
theorem rNot (w:World) (a:Cl):Calls Tryz.prog 39 #[.agg (clA a)] w fun e w'=>e= .returned (.agg (clA (a.compl)))∧Below w.heap.size w w':=by
 go_enter Tryz.func39,Tryz.ntmps39
 go_upto_region 1 with (fail)
 obtain ⟨W,hW,hB,hs,r0,r1⟩:∃W,((w.alloc (.cells (clA a) 65)).alloc (.cells #[.int .u64 0, .int .u64 0, .int .u64 0, .int .u64 0] 65))=W∧Below w.heap.size w W∧w.heap.size+2≤W.heap.size∧Row oV W (w.heap.size) 65 (clL a)∧Row oV W (w.heap.size+1) 65 [ow 0,ow 0,ow 0,ow 0]:=by
  refine ⟨_,rfl,(below_al (below_al (Below.refl _ _) (Nat.le_refl _) _) (Nat.le_refl _) _),by simp,?_,?_⟩
  all_goals repeat (first | (refine heap_new' _ _ _ ?_;(simp;done)) | (refine (Below.heap_alloc _ _ _ ?_).trans ?_;·(simp<;>omega)))
 rw [hW]
 clear hW
 have hz:Row oV (W.alloc (.cells #[.int .u64 0, .int .u64 0, .int .u64 0, .int .u64 0] 65)) W.heap.size 65 [ow 0,ow 0,ow 0,ow 0]:=Row.new _ _ rfl
 go_upto_region 2 with (((with_reducible refine zS (l':=[ow 0,ow 0,ow 0,ow 0]) hz aggCl ?_);(intro W1 hs1 hG1 hz1)))
 have hb1:=below_row (Below.refl W.heap.size W) hG1
 replace r0:=r0.below hb1 r0.lt
 replace r1:=r1.below hb1 r1.lt
 replace hB:=hB.trans (hb1.mono hB.size)
 have hlc:w.heap.size+1<W.heap.size∧w.heap.size≤W.heap.size:=by omega
 generalize hcb:W.heap.size=cb at *
 clear hs hz hG1 hz1 hb1 hcb W
 have HP:∃p:Nat→Bool,Hid (p=fun i=> !a.mem i):=⟨_,Lib.hid rfl⟩
 obtain ⟨p,HP⟩:=HP
 go_upto_region 3 with (fail)
 go_loopw [4] (fun i wr=>∃(k:Nat),k≤256∧i= .int .i64 k∧Row oV wr cb 65 (clL (fillC p k))∧Below cb W1 wr) (fun i _=>256 - (intOf i).toNat)
 case atStart=>exact ⟨0,by omega,rfl,hs1,Below.refl _ _⟩
 case round=>
  obtain ⟨k,hk,rfl,hR,hb⟩:=hrel
  replace r0:=r0.below hb (by omega)
  replace r1:=r1.below hb (by omega)
  replace hB:=hB.trans (hb.mono (by omega))
  have hcw:=hs1.lt
  by_cases hlt:k<256
  ·have hq:(k:Int)<256:=by omega
   have hbk:(UInt8.ofNat k).toNat=k:=by simp;omega
   have hw8:IntKind.u8.wrap (k:Int)=(k:Int):=by rw [IntKind.wrap_u8];omega
   have HPS:=Lib.hid (fillC_succ p k)
   have hpk:Hid (p k= !a.mem k):=Lib.hid (by rw [HP.out])
   clear hs1
   go_wp2_with ((with_reducible refine zL r0.at aggCl rfl (C:=clA a) ?_))
   have hc:=rHas wr a (UInt8.ofNat k)
   rw [hbk] at hc
   refine hc.mono ?_
   clear hc
   rintro e w3 ⟨rfl,hb3⟩
   replace hb:=hb.trans (hb3.mono (Nat.le_of_lt hR.lt))
   replace hR:=hR.below hb3 hR.lt
   replace r0:=r0.below hb3 r0.lt
   replace r1:=r1.below hb3 r1.lt
   clear hb3
   cases hm:a.mem k with
   | true=>
    have hpt:Hid (p k=false):=Lib.hid (by rw [hpk.out,hm];rfl)
    have hF:fillC p (k+1)=fillC p k:=by rw [HPS.out,if_neg (by rw [hpt.out];decide)]
    replace hF:=Lib.hid hF
    go_wp2_with fail
    go_roundw
    case rel=>exact ⟨k+1,by omega,by go_num,by rw [hF.out];exact hR,hb⟩
    case measure=>simp [intOf];omega
   | false=>
    have hpt:Hid (p k=true):=Lib.hid (by rw [hpk.out,hm];rfl)
    go_wp2_with ((with_reducible refine zL hR.at aggCl rfl (C:=clA (fillC p k)) ?_))
    have hc:=rWith w3 (fillC p k) (UInt8.ofNat k)
    rw [hbk] at hc
    refine hc.mono ?_
    clear hc
    rintro e w5 ⟨rfl,hb5⟩
    replace hb:=hb.trans (hb5.mono (Nat.le_of_lt hR.lt))
    replace hR:=hR.below hb5 hR.lt
    have hF:(fillC p k).add k=fillC p (k+1):=by rw [HPS.out,if_pos hpt.out]
    rw [hF]
    clear hF
    go_wp2_with (((with_reducible refine zS (l':=clL (fillC p (k+1))) hR aggCl ?_);(intro w6 hs6 hG6 hz6)))
    go_roundw
    case rel=>exact ⟨k+1,by omega,by go_num,hs6,hb.grown hG6 (Nat.le_of_lt hR.lt) (fun j e=>by cases e;exact Nat.le_refl _)⟩
    case measure=>simp [intOf];omega
  ·have he:k=256:=by omega
   subst he
   have hF:fillC p 256=a.compl:=by rw [HP.out];rfl
   rw [hF] at hR
   clear hF
   generalize hv:a.compl=v at *
   go_wp2_with (first
    | ((with_reducible refine zL hR.at aggCl rfl (C:=clA v) ?_))
    | ((with_reducible refine zS (l':=clL v) r1 aggCl ?_);(intro W6 hs6 hG6 hz6)))
   refine bodyPost_ret (results_agg (f:=oV) (l:=clL v) rfl _ aggCl (w.heap.size+1) 0 rfl hs6.at) rfl ?_
   exact ⟨by rw [hv];rfl,hB.grown hG6 hB.size (fun j e=>by cases e;omega)⟩
set_option maxHeartbeats 8000000 in
theorem rUnion (w:World) (a:Cl) (b:Cl):Calls Tryz.prog 40 #[.agg (clA a), .agg (clA b)] w fun e w'=>e= .returned (.agg (clA (a.union b)))∧Below w.heap.size w w':=by
 go_enter Tryz.func40,Tryz.ntmps40
 go_upto_region 1 with (fail)
 obtain ⟨W,hW,hB,hs,r0,r1,r2⟩:∃W,(((w.alloc (.cells (clA a) 65)).alloc (.cells (clA b) 65)).alloc (.cells #[.int .u64 0, .int .u64 0, .int .u64 0, .int .u64 0] 65))=W∧Below w.heap.size w W∧w.heap.size+3≤W.heap.size∧Row oV W (w.heap.size) 65 (clL a)∧Row oV W (w.heap.size+1) 65 (clL b)∧Row oV W (w.heap.size+1+1) 65 [ow 0,ow 0,ow 0,ow 0]:=by
  refine ⟨_,rfl,(below_al (below_al (below_al (Below.refl _ _) (Nat.le_refl _) _) (Nat.le_refl _) _) (Nat.le_refl _) _),by simp,?_,?_,?_⟩
  all_goals repeat (first | (refine heap_new' _ _ _ ?_;(simp;done)) | (refine (Below.heap_alloc _ _ _ ?_).trans ?_;·(simp<;>omega)))
 rw [hW]
 clear hW
 have hz:Row oV (W.alloc (.cells #[.int .u64 0, .int .u64 0, .int .u64 0, .int .u64 0] 65)) W.heap.size 65 [ow 0,ow 0,ow 0,ow 0]:=Row.new _ _ rfl
 go_upto_region 2 with (((with_reducible refine zS (l':=[ow 0,ow 0,ow 0,ow 0]) hz aggCl ?_);(intro W1 hs1 hG1 hz1)))
 have hb1:=below_row (Below.refl W.heap.size W) hG1
 replace r0:=r0.below hb1 r0.lt
 replace r1:=r1.below hb1 r1.lt
 replace r2:=r2.below hb1 r2.lt
 replace hB:=hB.trans (hb1.mono hB.size)
 have hlc:w.heap.size+1+1<W.heap.size∧w.heap.size≤W.heap.size:=by omega
 generalize hcb:W.heap.size=cb at *
 clear hs hz hG1 hz1 hb1 hcb W
 have HP:∃p:Nat→Bool,Hid (p=fun i=>a.mem i || b.mem i):=⟨_,Lib.hid rfl⟩
 obtain ⟨p,HP⟩:=HP
 go_upto_region 3 with (fail)
 go_loopw [6] (fun i wr=>∃(k:Nat),k≤256∧i= .int .i64 k∧Row oV wr cb 65 (clL (fillC p k))∧Below cb W1 wr) (fun i _=>256 - (intOf i).toNat)
 case atStart=>exact ⟨0,by omega,rfl,hs1,Below.refl _ _⟩
 case round=>
  obtain ⟨k,hk,rfl,hR,hb⟩:=hrel
  replace r0:=r0.below hb (by omega)
  replace r1:=r1.below hb (by omega)
  replace r2:=r2.below hb (by omega)
  replace hB:=hB.trans (hb.mono (by omega))
  have hcw:=hs1.lt
  by_cases hlt:k<256
  ·have hq:(k:Int)<256:=by omega
   have hbk:(UInt8.ofNat k).toNat=k:=by simp;omega
   have hw8:IntKind.u8.wrap (k:Int)=(k:Int):=by rw [IntKind.wrap_u8];omega
   have HPS:=Lib.hid (fillC_succ p k)
   have hpk:Hid (p k=(a.mem k || b.mem k)):=Lib.hid (by rw [HP.out])
   clear hs1
   go_wp2_with ((with_reducible refine zL r0.at aggCl rfl (C:=clA a) ?_))
   have hc:=rHas wr a (UInt8.ofNat k)
   rw [hbk] at hc
   refine hc.mono ?_
   clear hc
   rintro e w3 ⟨rfl,hb3⟩
   replace hb:=hb.trans (hb3.mono (Nat.le_of_lt hR.lt))
   replace hR:=hR.below hb3 hR.lt
   replace r0:=r0.below hb3 r0.lt
   replace r1:=r1.below hb3 r1.lt
   replace r2:=r2.below hb3 r2.lt
   clear hb3
   cases hm:a.mem k with
   | true=>
    have hpt:Hid (p k=true):=Lib.hid (by rw [hpk.out,hm];rfl)
    go_wp2_with ((with_reducible refine zL hR.at aggCl rfl (C:=clA (fillC p k)) ?_))
    have hc:=rWith w3 (fillC p k) (UInt8.ofNat k)
    rw [hbk] at hc
    refine hc.mono ?_
    clear hc
    rintro e w5 ⟨rfl,hb5⟩
    replace hb:=hb.trans (hb5.mono (Nat.le_of_lt hR.lt))
    replace hR:=hR.below hb5 hR.lt
    have hF:(fillC p k).add k=fillC p (k+1):=by rw [HPS.out,if_pos hpt.out]
    rw [hF]
    clear hF
    go_wp2_with (((with_reducible refine zS (l':=clL (fillC p (k+1))) hR aggCl ?_);(intro w6 hs6 hG6 hz6)))
    go_roundw
    case rel=>exact ⟨k+1,by omega,by go_num,hs6,hb.grown hG6 (Nat.le_of_lt hR.lt) (fun j e=>by cases e;exact Nat.le_refl _)⟩
    case measure=>simp [intOf];omega
   | false=>
    go_wp2_with ((with_reducible refine load_agg_w (f:=oV) (l:=clL b) (C:=clA b) aggCl (.tmp 3) ?_ ?_ (w.heap.size+1) 0 ?_ r1.at rfl ?_);rfl;rfl;rfl)
    have hc:=rHas w3 b (UInt8.ofNat k)
    rw [hbk] at hc
    refine hc.mono ?_
    clear hc
    rintro e w4 ⟨rfl,hb4⟩
    replace hb:=hb.trans (hb4.mono (Nat.le_of_lt hR.lt))
    replace hR:=hR.below hb4 hR.lt
    replace r0:=r0.below hb4 r0.lt
    replace r1:=r1.below hb4 r1.lt
    replace r2:=r2.below hb4 r2.lt
    clear hb4
    cases hn:b.mem k with
    | true=>
     have hpt:Hid (p k=true):=Lib.hid (by rw [hpk.out,hm,hn];rfl)
     go_wp2_with ((with_reducible refine zL hR.at aggCl rfl (C:=clA (fillC p k)) ?_))
     have hc:=rWith w4 (fillC p k) (UInt8.ofNat k)
     rw [hbk] at hc
     refine hc.mono ?_
     clear hc
     rintro e w5 ⟨rfl,hb5⟩
     replace hb:=hb.trans (hb5.mono (Nat.le_of_lt hR.lt))
     replace hR:=hR.below hb5 hR.lt
     have hF:(fillC p k).add k=fillC p (k+1):=by rw [HPS.out,if_pos hpt.out]
     rw [hF]
     clear hF
     go_wp2_with (((with_reducible refine zS (l':=clL (fillC p (k+1))) hR aggCl ?_);(intro w6 hs6 hG6 hz6)))
     go_roundw
     case rel=>exact ⟨k+1,by omega,by go_num,hs6,hb.grown hG6 (Nat.le_of_lt hR.lt) (fun j e=>by cases e;exact Nat.le_refl _)⟩
     case measure=>simp [intOf];omega
    | false=>
     have hpt:Hid (p k=false):=Lib.hid (by rw [hpk.out,hm,hn];rfl)
     have hF:fillC p (k+1)=fillC p k:=by rw [HPS.out,if_neg (by rw [hpt.out];decide)]
     replace hF:=Lib.hid hF
     go_wp2_with fail
     go_roundw
     case rel=>exact ⟨k+1,by omega,by go_num,by rw [hF.out];exact hR,hb⟩
     case measure=>simp [intOf];omega
  ·have he:k=256:=by omega
   subst he
   have hF:fillC p 256=a.union b:=by rw [HP.out];exact fill_union a b
   rw [hF] at hR
   clear hF
   generalize hv:a.union b=v at *
   go_wp2_with (first
    | ((with_reducible refine zL hR.at aggCl rfl (C:=clA v) ?_))
    | ((with_reducible refine zS (l':=clL v) r2 aggCl ?_);(intro W6 hs6 hG6 hz6)))
   refine bodyPost_ret (results_agg (f:=oV) (l:=clL v) rfl _ aggCl (w.heap.size+1+1) 0 rfl hs6.at) rfl ?_
   exact ⟨by rw [hv];rfl,hB.grown hG6 hB.size (fun j e=>by cases e;omega)⟩
end Go.Proofs.YtncnfncglacheaaGreatDoor
namespace Go.Proofs.YtncnfncglacheaaGreatDoor
open Go Go.RowKit Mem
set_option maxRecDepth 100000
set_option maxHeartbeats 8000000 in
theorem rOfO (w:World) (v:Value) (l:List UInt8) (hv:Rd u8V w v l) (hn:l.length≤4294967296):Calls Tryz.prog 38 #[v] w fun e w'=>e= .returned (.agg (clA (addAll l)))∧Below w.heap.size w w':=by
 have HV:=Lib.hid hv
 obtain ⟨p,c,rfl⟩:=hv.slice
 clear hv
 go_enter Tryz.func38,Tryz.ntmps38
 go_upto_region 1 with (fail)
 obtain ⟨W,hW,hB,hs,r0⟩:∃W,(w.alloc (.cells #[.int .u64 0, .int .u64 0, .int .u64 0, .int .u64 0] 65))=W∧Below w.heap.size w W∧w.heap.size+1≤W.heap.size∧Row oV W w.heap.size 65 [ow 0,ow 0,ow 0,ow 0]:=
  ⟨_,rfl,below_al (Below.refl _ _) (Nat.le_refl _) _,by simp,Row.new _ _ rfl⟩
 rw [hW]
 clear hW
 have hz:Row oV (W.alloc (.cells #[.int .u64 0, .int .u64 0, .int .u64 0, .int .u64 0] 65)) W.heap.size 65 [ow 0,ow 0,ow 0,ow 0]:=Row.new _ _ rfl
 go_upto_region 2 with (((with_reducible refine zS (l':=[ow 0,ow 0,ow 0,ow 0]) hz aggCl ?_);(intro W1 hs1 hG1 hz1)))
 have hb1:=below_row (Below.refl W.heap.size W) hG1
 replace r0:=r0.below hb1 r0.lt
 replace hB:=hB.trans (hb1.mono hB.size)
 generalize hcb:W.heap.size=cb at *
 have hcb':w.heap.size+1≤cb:=hs
 clear hs hz hG1 hz1 hb1 hcb W
 go_upto_region 3 with (fail)
 go_loopw [4] (fun i wr=>∃(k:Nat),k≤l.length∧i= .int .i64 k∧Row oV wr cb 65 (clL (addAll (l.take k)))∧Below cb W1 wr) (fun i _=>l.length - (intOf i).toNat)
 case atStart=>exact ⟨0,by omega,rfl,hs1,Below.refl _ _⟩
 case round=>
  obtain ⟨k,hk,rfl,hR,hb⟩:=hrel
  have hcw:=hs1.lt
  by_cases hlt:k<l.length
  ·have hq:(k:Int)<(l.length:Int):=by omega
   obtain ⟨b,o,rfl,hcl⟩:∃b o,p=some ⟨b,o,none⟩∧∀X,Below cb W1 X→X.cell? ⟨b,o+k,none⟩=some (.int .u8 (l[k].toNat:Int)):=by
    rcases HV.out with ⟨_,_,h0⟩ | ⟨b,o,cap,he,hc,hat,hbl⟩
    ·rw [h0] at hlt;simp at hlt
    ·cases he
     refine ⟨b,o,rfl,fun X hX=> ?_⟩
     rw [hX.cell (p:=⟨b,o+k,none⟩) (by show b<cb;omega),hB.cell (p:=⟨b,o+k,none⟩) hbl,hat k hlt,List.getElem?_eq_getElem hlt]
     rfl
   replace hcl:=Lib.hid hcl
   go_wp2_with fail
   refine region_headsT (S:=fun X=>Below cb W1 X∧Row oV X cb 65 (clL (addAll (l.take k)))) 6 rfl (by kernel_rfl) ⟨hb.drew,hR⟩ fun hS=> ?_
   refine tk 0 12 (.agg (clA (addAll (l.take k)))) hS ?_ rfl (yieldsIf_load (f:=oV) (l:=clL (addAll (l.take k))) aggCl (.tmp 3) rfl cb 0 rfl (fun W' h=>h.2.at) rfl rfl)
   refine tk 1 13 (.slice (some ⟨b,o,none⟩) l.length c) hS ?_
   refine tk 2 14 (.int .i64 k) hS ?_
   refine tk 3 15 (.pointer (some ⟨b,o+k,none⟩)) hS ?_ rfl yg
   refine tk 4 16 (.int .u8 (l[k].toNat:Int)) hS ?_ rfl (qi fun W' h=>by have q0:=hcl.out W' h.1;go_simp)
   refine rdT 5 (fun K' hK=> ?_)
   refine cD 17 76 #[.agg (clA (addAll (l.take k))), .int .u8 (l[k].toNat:Int)] ?_
   refine (rWith _ (addAll (l.take k)) l[k]).mono ?_
   rintro e Wc ⟨rfl,hBc⟩
   replace hS:=And.intro (hS.1.trans (hBc.mono (Nat.le_of_lt hS.2.lt))) (hS.2.below hBc hS.2.lt)
   refine ⟨_,rfl,hK.out _ _ hS fun _=> ?_⟩
   clear hK hBc
   simp only [sA,sB,sC]
   refine headsT_tail (by kernel_rfl) ?_
   simp only [List.drop]
   obtain ⟨hb,hR⟩:=hS
   have hF:=addAll_succ l k hlt
   rw [← hF]
   replace hF:=Lib.hid hF
   generalize hv:addAll (l.take (k+1))=v at *
   go_wp2_with (((with_reducible refine zS (l':=clL v) hR aggCl ?_);(intro w6 hs6 hG6 hz6)))
   go_roundw
   case rel=>exact ⟨k+1,by omega,by go_num,by rw [hv];exact hs6,hb.grown hG6 (Nat.le_of_lt hR.lt) (fun j e=>by cases e;exact Nat.le_refl _)⟩
   case measure=>simp [intOf];omega
  ·have he:k=l.length:=by omega
   subst he
   rw [List.take_length] at hR
   have hq:¬(l.length:Int)<(l.length:Int):=by omega
   replace hB:=hB.trans (hb.mono (by omega))
   replace r0:=r0.below hb (by omega)
   generalize hv:addAll l=v at *
   go_wp2_with (first
    | ((with_reducible refine zL hR.at aggCl rfl (C:=clA v) ?_))
    | ((with_reducible refine zS (l':=clL v) r0 aggCl ?_);(intro W6 hs6 hG6 hz6)))
   refine bodyPost_ret (results_agg (f:=oV) (l:=clL v) rfl _ aggCl w.heap.size 0 rfl hs6.at) rfl ?_
   exact ⟨by first | rfl | (rw [hv];rfl),hB.grown hG6 hB.size (fun j e=>by cases e;omega)⟩
end Go.Proofs.YtncnfncglacheaaGreatDoor
namespace Go.Proofs.YtncnfncglacheaaGreatDoor
open Go Go.RowKit Mem
set_option maxRecDepth 100000
theorem NZ.run_app (N:NZ) (s:NSt) (a b:List UInt8):N.run s (a++b)=N.run (N.run s a) b:=by
 unfold NZ.run;rw [List.foldl_append]
def NSt.Inv (s:NSt):Prop:=s.ref=true→s.pos=0
theorem NZ.step_inv (N:NZ) (s:NSt) (b:UInt8) (h:s.Inv):(N.step s b).Inv:=by
 unfold NZ.step
 split
 ·exact h
 ·intro hr
  have h3:(N.cell s.pos.toNat b).act=3:=of_decide_eq_true hr
  show (N.cell s.pos.toNat b).next=0
  unfold Ce.next
  rw [if_pos h3]
theorem NZ.run_inv (N:NZ) (bs:List UInt8):∀s:NSt,s.Inv→(N.run s bs).Inv:=by
 induction bs with
 | nil=>exact fun s h=>h
 | cons b bs ih=>exact fun s h=>ih _ (N.step_inv s b h)
theorem NZ.step_pre (N:NZ) (p:Int) (r:Bool) (o o':List UInt8) (b:UInt8):N.step ⟨p,r,o'++o⟩ b=⟨(N.step ⟨p,r,o⟩ b).pos,(N.step ⟨p,r,o⟩ b).ref,o'++(N.step ⟨p,r,o⟩ b).out⟩:=by
 unfold NZ.step
 cases r with
 | true=>rfl
 | false=>simp
theorem NZ.run_pre (N:NZ) (bs:List UInt8):∀(p:Int) (r:Bool) (o o':List UInt8),N.run ⟨p,r,o'++o⟩ bs=⟨(N.run ⟨p,r,o⟩ bs).pos,(N.run ⟨p,r,o⟩ bs).ref,o'++(N.run ⟨p,r,o⟩ bs).out⟩:=by
 induction bs with
 | nil=>exact fun p r o o'=>rfl
 | cons b bs ih=>
  intro p r o o'
  show N.run (N.step ⟨p,r,o'++o⟩ b) bs=_
  rw [NZ.step_pre,ih]
  rfl
theorem NZ.run_from (N:NZ) (s:NSt) (bs:List UInt8) (h:s.Inv):N.run s bs=⟨(N.run ⟨at0 s.ref s.pos,s.ref,[]⟩ bs).pos,(N.run ⟨at0 s.ref s.pos,s.ref,[]⟩ bs).ref,s.out++(N.run ⟨at0 s.ref s.pos,s.ref,[]⟩ bs).out⟩:=by
 have e:at0 s.ref s.pos=s.pos:=by
  unfold at0
  split
  ·rename_i hr;exact (h hr).symm
  ·rfl
 rw [e,← NZ.run_pre,List.append_nil]
theorem NZ.run_pos {N:NZ} (hv:N.valid=true) (hcov:N.Cov) (bs:List UInt8):∀s:NSt,(0≤s.pos∧s.pos<(N.rows.length:Int))→0≤(N.run s bs).pos∧(N.run s bs).pos<(N.rows.length:Int):=by
 induction bs with
 | nil=>exact fun s h=>h
 | cons b bs ih=>exact fun s h=>ih _ (step_pos hv hcov s h b)
theorem NZ.okAt_of {N:NZ} (hv:N.valid=true) {p:Int} (h:0≤p∧p<(N.rows.length:Int)):N.okAt p=true:=by
 unfold NZ.okAt;rw [hv,Bool.true_and];exact decide_eq_true h
theorem NZ.rows_pos {N:NZ} (hv:N.valid=true):(0:Int)≤0∧(0:Int)<(N.rows.length:Int):=⟨Int.le_refl _,by have:=((valid_iff N).1 hv).1.2.1;omega⟩
abbrev st0:NSt:=⟨0,false,[]⟩
theorem st0_inv:NSt.Inv st0:=fun h=>by cases h
theorem NZ.acc_eq {N:NZ} (hv:N.valid=true) (bs:List UInt8):N.acc bs=N.fin (N.run st0 bs).pos (N.run st0 bs).ref:=by
 unfold NZ.acc;rw [NZ.okAt_of hv (NZ.rows_pos hv),Bool.true_and]
theorem Ce.out_le (c:Ce) (b:UInt8):(c.out b).length≤1:=by
 unfold Ce.out
 split
 ·simp
 ·split<;>simp
theorem NZ.step_le (N:NZ) (s:NSt) (b:UInt8):(N.step s b).out.length≤s.out.length+1:=by
 unfold NZ.step
 split
 ·omega
 ·have:=Ce.out_le (N.cell s.pos.toNat b) b
  simp only [List.length_append]
  omega
theorem NZ.out_le (N:NZ) (bs:List UInt8):∀s:NSt,(N.run s bs).out.length≤s.out.length+bs.length:=by
 induction bs with
 | nil=>exact fun s=>Nat.le_add_right _ _
 | cons b bs ih=>
  intro s
  have h1:=ih (N.step s b)
  have h2:=N.step_le s b
  show (N.run (N.step s b) bs).out.length≤_
  rw [List.length_cons]
  omega
theorem NZ.three {N:NZ} (hv:N.valid=true) (hcov:N.Cov) (x y z:List UInt8) (s t u:NSt) (hs:s=N.run ⟨0,false,[]⟩ x) (ht:t=N.run ⟨at0 s.ref s.pos,s.ref,[]⟩ y) (hu:u=N.run ⟨at0 t.ref t.pos,t.ref,[]⟩ z):
  N.okAt 0=true∧N.okAt s.pos=true∧N.okAt t.pos=true∧N.acc (x++(y++z))=N.fin u.pos u.ref∧s.out++(t.out++u.out)=(N.run ⟨0,false,[]⟩ (x++(y++z))).out:=by
 have i1:s.Inv:=by rw [hs];exact N.run_inv x _ st0_inv
 have p1:0≤s.pos∧s.pos<(N.rows.length:Int):=by rw [hs];exact NZ.run_pos hv hcov x _ (NZ.rows_pos hv)
 have e2:=N.run_from s y i1
 rw [← ht] at e2
 have i2:(N.run s y).Inv:=N.run_inv y _ i1
 have p2:0≤t.pos∧t.pos<(N.rows.length:Int):=by have:=NZ.run_pos hv hcov y _ p1;rw [e2] at this;exact this
 have e3:=N.run_from (N.run s y) z i2
 rw [e2] at e3
 simp only at e3
 rw [← hu] at e3
 have e4:N.run ⟨0,false,[]⟩ (x++(y++z))=⟨u.pos,u.ref,s.out++t.out++u.out⟩:=by rw [NZ.run_app,← hs,NZ.run_app,e2,e3]
 refine ⟨NZ.okAt_of hv (NZ.rows_pos hv),NZ.okAt_of hv p1,NZ.okAt_of hv p2,?_,?_⟩
 ·rw [NZ.acc_eq hv];show N.fin (N.run ⟨0,false,[]⟩ _).pos (N.run ⟨0,false,[]⟩ _).ref=_;rw [e4]
 ·rw [e4,List.append_assoc]
theorem NZ.begins {N:NZ} (hv:N.valid=true) (hcov:N.Cov) (x y:List UInt8):(N.run ⟨0,false,[]⟩ x).out<+:(N.run ⟨0,false,[]⟩ (x++y)).out:=by
 have _:=hcov
 have _:=hv
 rw [NZ.run_app,N.run_from _ y (N.run_inv x _ st0_inv)]
 exact List.prefix_append _ _
end Go.Proofs.YtncnfncglacheaaGreatDoor
namespace Go.Proofs.YtncnfncglacheaaGreatDoor
open Go Go.RowKit Mem
set_option maxRecDepth 100000
def clOa:Cl:=⟨0,8589934592,0,0⟩
def clOb:Cl:=⟨0,17179869184,0,0⟩
def clOo:Cl:=⟨18446744073709551615,18446744047939747839,18446744073709551615,18446744073709551615⟩
def mkAct (r:Nat):Int:=if r=3 then 1 else if r=4 then 2 else if r=5 then 2 else if r=6 then 3 else if r=7 then 3 else 0
def mkB (r:Nat):UInt8:=if r=4 then 97 else if r=5 then 98 else 0
def mkCell (k states:Nat):Ce:=⟨((k / 8 % states:Nat):Int),mkAct (k % 8),mkB (k % 8)⟩
def mkStates (l:List UInt8):Nat:=if 0<l.length then 1+(l[0]?.getD 0).toNat % 4 else 1
def mkX (l:List UInt8) (s k:Nat):Nat:=if 1+4 * s+k<l.length then (l[1+4 * s+k]?.getD 0).toNat else 0
def mkRow (l:List UInt8) (s n:Nat):List Ce:=(List.range n).map fun k=>mkCell (mkX l s k) (mkStates l)
def mkEnd (l:List UInt8) (s:Nat):Bool:=if 4+4 * s<l.length then decide ((l[4+4 * s]?.getD 0).toNat % 4≠0) else true
def mkRows (l:List UInt8) (n:Nat):List (List Ce):=(List.range n).map fun s=>mkRow l s 3
def mkEnds (l:List UInt8) (n:Nat):List Bool:=(List.range n).map (mkEnd l)
def made (l:List UInt8):NZ:=⟨[clOo,clOa,clOb],mkRows l (mkStates l),mkEnds l (mkStates l)⟩
theorem mkStates_bd (l:List UInt8):1≤mkStates l∧mkStates l≤4:=by unfold mkStates;split<;>omega
theorem mkRow_succ (l:List UInt8) (s n:Nat):mkRow l s (n+1)=mkRow l s n++[mkCell (mkX l s n) (mkStates l)]:=by unfold mkRow;rw [List.range_succ,List.map_append];rfl
theorem mkEnds_succ (l:List UInt8) (n:Nat):mkEnds l (n+1)=mkEnds l n++[mkEnd l n]:=by unfold mkEnds;rw [List.range_succ,List.map_append];rfl
theorem mkRow_length (l:List UInt8) (s n:Nat):(mkRow l s n).length=n:=by simp [mkRow]
theorem mkRows_length (l:List UInt8) (n:Nat):(mkRows l n).length=n:=by simp [mkRows]
theorem mkEnds_length (l:List UInt8) (n:Nat):(mkEnds l n).length=n:=by simp [mkEnds]
end Go.Proofs.YtncnfncglacheaaGreatDoor
