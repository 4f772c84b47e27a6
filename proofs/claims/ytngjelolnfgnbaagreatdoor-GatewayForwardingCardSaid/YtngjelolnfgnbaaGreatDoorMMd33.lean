/- Part of a proof. -/
import Derived.Test.YtngjelolnfgnbaaGreatDoorMLet33
import Derived.Test.YtngjelolnfgnbaaGreatDoorMFree
set_option linter.all false
set_option maxRecDepth 100000
set_option maxHeartbeats 64000000
namespace Go.Proofs.YtngjelolnfgnbaaGreatDoor
open Go Go.RowKit Mem
theorem wh:yU Tryz.prog 96 98 3 24:=yU.mk' (z:= .agg #[.int .i64 0, .int .i64 0, .int .u8 0]) Tryz.underlying96 (by kernel_rfl) rfl
theorem CO:mX Tryz.prog 58 96 24:=mX.mk' (z:= .slice none 0 0) Tryz.underlying58 (by kernel_rfl) rfl
theorem EM:mX Tryz.prog 59 4 1:=mX.mk' (z:= .bool false) Tryz.underlying59 (by kernel_rfl) rfl
theorem lJ:gB Tryz.prog 61 3:=⟨fun _=>by kernel_rfl,fun _=>by kernel_rfl⟩
theorem wJ:gB Tryz.prog 98 3:=⟨fun _=>by kernel_rfl,fun _=>by kernel_rfl⟩
theorem Eb (x:Bool):(Value.bool x).oneCell'=true:=rfl
theorem Cq (w:World) (hg:Ev.gN≤w.heap.size) (b0 b1 b2 b3 b4 b5 b6:UInt8):Calls Tryz.prog 15 #[.agg #[.int .u8 (b0.toNat:Int), .int .u8 (b1.toNat:Int), .int .u8 (b2.toNat:Int), .int .u8 (b3.toNat:Int), .int .u8 (b4.toNat:Int), .int .u8 (b5.toNat:Int), .int .u8 (b6.toNat:Int)]] w fun e w'=>∃(N:NZ) (pc pr pe:Option Addr) (kc kr ke:Nat),e= .returned (.agg #[.slice pc N.cls.length kc, .slice pr N.rows.length kr, .slice pe N.ends.length ke])∧dB w' (.agg #[.slice pc N.cls.length kc, .slice pr N.rows.length kr, .slice pe N.ends.length ke]) N∧Below w.heap.size w w':=by
 have l0:=b0.toNat_lt;have l1:=b1.toNat_lt;have l2:=b2.toNat_lt;have l3:=b3.toNat_lt;have l4:=b4.toNat_lt;have l5:=b5.toNat_lt;have l6:=b6.toNat_lt;generalize b0.toNat=y0 at *;generalize b1.toNat=y1 at *;generalize b2.toNat=y2 at *;generalize b3.toNat=y3 at *;generalize b4.toNat=y4 at *;generalize b5.toNat=y5 at *;generalize b6.toNat=y6 at *;go_enter Tryz.func15,Tryz.ntmps15;go_upto_region 1 with (fail)
 obtain ⟨W,hW,hB,hs,g0,r2⟩:∃W,((w.alloc (.cells #[.int .u8 (y0:Int), .int .u8 (y1:Int), .int .u8 (y2:Int), .int .u8 (y3:Int), .int .u8 (y4:Int), .int .u8 (y5:Int), .int .u8 (y6:Int)] 64)).alloc (.cells #[.slice none 0 0, .slice none 0 0, .slice none 0 0] 61))=W∧Below w.heap.size w W∧W.heap.size=w.heap.size+2∧W.heap[w.heap.size]?=some (.cells #[.int .u8 (y0:Int), .int .u8 (y1:Int), .int .u8 (y2:Int), .int .u8 (y3:Int), .int .u8 (y4:Int), .int .u8 (y5:Int), .int .u8 (y6:Int)] 64 (0,0))∧Row oV W (w.heap.size+1) 61 [on,on,on]:=by
  refine ⟨_,rfl,ai (ai (aI _ _) (aj _) _) (aj _) _,by simp,?_,?_⟩
  all_goals repeat (first | (refine bG _ _ _ ?_;(simp;done)) | (refine (oI _ _ _ ?_).trans ?_;·(simp<;>omega)))
 rw [hW];have hgl:w.heap.size<W.heap.size:=by omega
 have HX:Hid (∀Z:World,Below W.heap.size W Z→Z.cell? ⟨w.heap.size,0,none⟩=some (.int .u8 (y0:Int))∧∀m,m<6→∃y:Nat,y<256∧Z.cell? ⟨w.heap.size,1+m,none⟩=some (.int .u8 (y:Int))):=af fun Z hZ=>by
  have h0:=(hZ.block w.heap.size hgl).trans g0;refine ⟨by unfold World.cell?;rw [h0];rfl,fun m hm=> ?_⟩;unfold World.cell?;rw [h0]
  match m,hm with
  | 0,_=>exact ⟨y1,l1,rfl⟩
  | 1,_=>exact ⟨y2,l2,rfl⟩
  | 2,_=>exact ⟨y3,l3,rfl⟩
  | 3,_=>exact ⟨y4,l4,rfl⟩
  | 4,_=>exact ⟨y5,l5,rfl⟩
  | 5,_=>exact ⟨y6,l6,rfl⟩
 clear hW g0 l1 l2 l3 l4 l5 l6;go_wp2_with fail;refine (Ev.xD W (gp hg hB.size)).mono ?_;rintro e Y ⟨pl,cl,rfl,hcl,hB1⟩;have HR2:=af (r2.below hB1 r2.lt);have Km:=af hcl;have hl2:w.heap.size+1<Y.heap.size:=bY r2.lt hB1.size;replace HX:Hid (∀Z:World,Below Y.heap.size Y Z→Z.cell? ⟨w.heap.size,0,none⟩=some (.int .u8 (y0:Int))∧∀m,m<6→∃y:Nat,y<256∧Z.cell? ⟨w.heap.size,1+m,none⟩=some (.int .u8 (y:Int))):=af fun Z hZ=>HX.out Z (hB1.trans (hZ.mono hB1.size));replace hB:=hB.trans (hB1.mono hB.size);clear hcl r2 hB1 hs hgl;go_upto_region 2 with (fail)
 have hM0:MG Y (Y.alloc (.cells #[.slice pl 3 cl, .slice none 0 0, .slice none 0 0] 61)) ⟨.slice pl 3 cl,rfl⟩ (Y.alloc (.cells #[.slice pl 3 cl, .slice none 0 0, .slice none 0 0] 61)).heap.size Y.heap.size 0 0 none none 0 0 [] [] []:=
  ⟨Row.new _ _ rfl,Own.nil _ _ _,rfl,rfl,fun i hi=>by simp at hi,Own.nil _ _ _,fun i j hi=>by simp at hi,ai (aI _ _) (aj _) _,aj _,by simp,aj _⟩
 generalize (Y.alloc (.cells #[.slice pl 3 cl, .slice none 0 0, .slice none 0 0] 61))=X0 at *;have hx0:=(HX.out X0 hM0.below).1;have z1:(y0:Int).tmod 2=((y0 % 2:Nat):Int):=by rw [zO (by omega)];omega
 have z2:(y0:Int) % 2=((y0 % 2:Nat):Int):=by omega
 have z3:y0 % 2<2:=xR _ (by omega);generalize y0 % 2=r at *;have hw2:wrap64 (r:Int)=(r:Int):=by unfold wrap64;omega
 have hw3:wrap64 (1+(r:Int))=1+(r:Int):=by unfold wrap64;omega
 have I1:=af hM0;clear hM0;go_upto_region 3 with (fail);clear hx0 hw2 hw3 z1 z2;obtain ⟨sn,hsn,hs1,hs2⟩:∃sn:Nat,1+(r:Int)=(sn:Int)∧1≤sn∧sn≤2:=⟨1+r,by omega,by omega,by omega⟩
 rw [hsn];clear hsn z3;generalize hBd:X0.heap.size=B at *;clear hBd;go_upto_region 4 with (fail)
 go_loopw [5,6,7,8,9] (fun s5 s6 s7 s8 s9 wr=>∃(s:Nat) (pr pe:Option Addr) (kr ke:Nat) (us:List OC) (rows:List (List Ce)) (ends:List Bool),s≤sn∧s5= .int .i64 s∧ends.length=s∧Hid (MG Y wr ⟨.slice pl 3 cl,rfl⟩ B Y.heap.size s s pr pe kr ke us rows ends)) (fun i _ _ _ _ _=>sn - (intOf i).toNat)
 case atStart=>exact ⟨0,none,none,0,0,[],[],[],by omega,rfl,rfl,I1⟩
 case round=>
  clear I1;obtain ⟨s,pr,pe,kr,ke,us,rows,ends,hsl,rfl,hel,HM⟩:=hrel;replace hel:=af hel;by_cases hlt:s<sn
  ·have hq:(s:Int)<(sn:Int):=by omega
   go_upto_region 7 with (fail);have xu:bf 3 dH (wr.alloc (.cells #[] 98)) wr.heap.size 98 (.slice (some ⟨wr.heap.size,0,none⟩) 0 0) []:=bf.IA wr wr.heap.size 98 (aj _);have hb0:=ai (aI wr.heap.size wr) (aj _) (.cells #[] 98);generalize (wr.alloc (.cells #[] 98))=wA at *;go_upto_region 8 with (fail)
   go_loopw [6,7,8,9] (fun s6 s7 s8 s9 wq=>∃(k:Nat) (p8:Option Addr) (c8:Nat) (cs:List Ce),k≤3∧s7= .int .i64 k∧s6= .slice p8 k c8∧cs.length=k∧bf 3 dH wq wr.heap.size 98 (.slice p8 k c8) cs∧Below wr.heap.size wr wq) (fun _ i _ _ _=>3 - (intOf i).toNat)
   case atStart=>exact ⟨0,_,0,[],by omega,rfl,rfl,rfl,xu,hb0⟩
   case round=>
    clear xu hb0;obtain ⟨k,p8,c8,cs,hk3,rfl,rfl,hcl,hO,hb2⟩:=hrel;by_cases hkt:k<3
    ·have hq2:(k:Int)<3:=by omega
     obtain ⟨m,hm⟩:∃m:Nat,m=3 * s+k:=⟨_,rfl⟩
     have a5:3 * (s:Int)+(k:Int)=(m:Int):=by omega
     have Kr:m<6:=by omega
     have KX:(m:Int)<6:=by omega
     obtain ⟨y,hy,hcy⟩:=(HX.out _ (HM.out.mono hb2).below).2 m Kr;clear hm;have HO:=af hO;have HB2:=af hb2;have mM:=af hcl;clear hO hb2 hcl;have KD:¬(sn:Int)=0:=by omega
     go_upto_region 11 with (fail);clear hcy;go_upto_region 12 with (fail);obtain ⟨bz,hbz⟩:∃bz:UInt8,Hid ((0:Int)=(bz.toNat:Int)):=⟨0,af rfl⟩
     have hcR:Row oV (wr.alloc (.cells #[.int .i64 ((y:Int) / 8 % (sn:Int)), .int .i64 ((y:Int) % 4), .int .u8 0] 98)) wr.heap.size 98 (dH ⟨(y:Int) / 8 % (sn:Int),(y:Int) % 4,bz⟩):=Row.new _ _ (by unfold dH;rw [hbz.out];rfl);have hbx:=ai (aI wr.heap.size wr) (aj _) (.cells #[.int .i64 ((y:Int) / 8 % (sn:Int)), .int .i64 ((y:Int) % 4), .int .u8 0] 98);generalize (wr.alloc (.cells #[.int .i64 ((y:Int) / 8 % (sn:Int)), .int .i64 ((y:Int) % 4), .int .u8 0] 98))=X1 at *;generalize (y:Int) / 8 % (sn:Int)=tg at *;obtain ⟨cb,hcb⟩:∃cb,wr.heap.size=cb:=⟨_,rfl⟩
     have F6:wr.heap.size≤cb:=Nat.le_of_eq hcb;rw [hcb] at hcR ⊢;clear hcb;by_cases h8:(4:Int)≤(y:Int) % 8
     ·have f1:=hcR.frozen 1;have e0:X1.cell? ⟨cb,1,none⟩=some (.int .i64 ((y:Int) % 4)):=by rw [hcR.cell?];rfl
      go_upto_region 14 with (fail);have xW:=hcR.set 1 (oi 0);have xm:=aQ hbx 1 F6 (.int .i64 0);clear hcR hbx f1 e0;have hcR:Row oV (X1.setCell ⟨cb,1,none⟩ (.int .i64 0)) cb 98 (dH ⟨tg,0,bz⟩):=xW;have hbx:=xm;clear xW xm;have e1:(X1.setCell ⟨cb,1,none⟩ (.int .i64 0)).cell? ⟨cb,1,none⟩=some (.int .i64 0):=by rw [hcR.cell?];rfl
      go_upto_region 16 with (fail);clear e1;have Eh:=af (HO.out.below' hbx);have qa:=af (HB2.out.trans (hbx.mono HB2.out.size));clear hbx;generalize (X1.setCell ⟨cb,1,none⟩ (.int .i64 0))=X5 at *
      go_wp2_with (first
       | ((with_reducible refine zL hcR.at wJ rfl (C:=jo (⟨tg,0,bz⟩:Ce)) ?_))
       | (at_builtin;(with_reducible refine pJ wh (by decide) kW (.tmp 55) (.tmp 57) ?_ ?_ ?_ Eh.out (⟨tg,0,bz⟩:Ce) (jo (⟨tg,0,bz⟩:Ce)) ?_ 98 ?_ ?_ ?_ ?_ (cs++[(⟨tg,0,bz⟩:Ce)]) ?_ ?_);rfl;rfl;rfl;rfl;rfl;(rw [mM.out];omega);(rw [mM.out];omega);(exact qa.out.size);rfl;(intro p9 c9 w6 qO wM iI)))
      go_roundw
      case rel=>exact ⟨k+1,p9,c9,cs++[(⟨tg,0,bz⟩:Ce)],by omega,by go_num,by rw [mM.out],by rw [fG,mM.out];rfl,by rw [fG,mM.out] at qO;exact qO,qa.out.trans wM⟩
      case measure=>simp [intOf]<;>omega
     ·have e1:X1.cell? ⟨cb,1,none⟩=some (.int .i64 ((y:Int) % 4)):=by rw [hcR.cell?];rfl
      generalize (y:Int) % 4=ac at *;by_cases h2:ac=2
      ·subst h2;have f2:=hcR.frozen 2;have e2:X1.cell? ⟨cb,2,none⟩=some (.int .u8 (bz.toNat:Int)):=by rw [hcR.cell?];rfl
       go_upto_region 16 with (fail);clear e1 e2 f2;obtain ⟨bu,hbu⟩:∃bu:UInt8,97+(y:Int) / 16 % 2=(bu.toNat:Int):=⟨UInt8.ofNat (97+y / 16 % 2),by rw [Dw];omega⟩
       rw [hbu];have xW:=hcR.set 2 (⟨.int .u8 (bu.toNat:Int),rfl⟩:OC);have xm:=aQ hbx 2 F6 (.int .u8 (bu.toNat:Int));clear hcR hbx hbu;have hcR:Row oV (X1.setCell ⟨cb,2,none⟩ (.int .u8 (bu.toNat:Int))) cb 98 (dH ⟨tg,2,bu⟩):=xW;have hbx:=xm;clear xW xm;have Eh:=af (HO.out.below' hbx);have qa:=af (HB2.out.trans (hbx.mono HB2.out.size));clear hbx;generalize (X1.setCell ⟨cb,2,none⟩ (.int .u8 (bu.toNat:Int)))=X5 at *
       go_wp2_with (first
        | ((with_reducible refine zL hcR.at wJ rfl (C:=jo (⟨tg,2,bu⟩:Ce)) ?_))
        | (at_builtin;(with_reducible refine pJ wh (by decide) kW (.tmp 55) (.tmp 57) ?_ ?_ ?_ Eh.out (⟨tg,2,bu⟩:Ce) (jo (⟨tg,2,bu⟩:Ce)) ?_ 98 ?_ ?_ ?_ ?_ (cs++[(⟨tg,2,bu⟩:Ce)]) ?_ ?_);rfl;rfl;rfl;rfl;rfl;(rw [mM.out];omega);(rw [mM.out];omega);(exact qa.out.size);rfl;(intro p9 c9 w6 qO wM iI)))
       go_roundw
       case rel=>exact ⟨k+1,p9,c9,cs++[(⟨tg,2,bu⟩:Ce)],by omega,by go_num,by rw [mM.out],by rw [fG,mM.out];rfl,by rw [fG,mM.out] at qO;exact qO,qa.out.trans wM⟩
       case measure=>simp [intOf]<;>omega
      ·go_upto_region 16 with (fail);clear e1;have Eh:=af (HO.out.below' hbx);have qa:=af (HB2.out.trans (hbx.mono HB2.out.size));clear hbx;generalize X1=X5 at *
       go_wp2_with (first
        | ((with_reducible refine zL hcR.at wJ rfl (C:=jo (⟨tg,ac,bz⟩:Ce)) ?_))
        | (at_builtin;(with_reducible refine pJ wh (by decide) kW (.tmp 55) (.tmp 57) ?_ ?_ ?_ Eh.out (⟨tg,ac,bz⟩:Ce) (jo (⟨tg,ac,bz⟩:Ce)) ?_ 98 ?_ ?_ ?_ ?_ (cs++[(⟨tg,ac,bz⟩:Ce)]) ?_ ?_);rfl;rfl;rfl;rfl;rfl;(rw [mM.out];omega);(rw [mM.out];omega);(exact qa.out.size);rfl;(intro p9 c9 w6 qO wM iI)))
       go_roundw
       case rel=>exact ⟨k+1,p9,c9,cs++[(⟨tg,ac,bz⟩:Ce)],by omega,by go_num,by rw [mM.out],by rw [fG,mM.out];rfl,by rw [fG,mM.out] at qO;exact qO,qa.out.trans wM⟩
       case measure=>simp [intOf]<;>omega
    ·obtain rfl:k=3:=by omega
     have zu:=HM.out.mono hb2;have hO3:=hO.mono (HM.out.lo.2.2);have hlo:Y.heap.size<B∧B≤wr.heap.size:=⟨zu.lo.2.1,zu.lo.2.2⟩
     have c1:wr.cell? ⟨Y.heap.size,1,none⟩=some (.slice pr s kr):=by rw [zu.row.cell?];rfl
     have f1:=zu.row.frozen 1;have mD:=zu.len;have hlen:(us++[aV p8 3 c8]).length=s+1:=by rw [fG,mD];rfl
     have Gr:=af zu;have IX:=af hlen;have Ht:=af mD
     have HD:Hid (∀i (hi:i<us.length) k,(oV us[i]).ownBlock=some k→(oV (aV p8 3 c8)).ownBlock≠some k):=af fun i hi k hk e=>by
      have h1:=((HM.out.each i hi).lt k hk).2;have h2:=(hO.lt k e).1;omega
     clear zu hlen mD hO hb2 HM;rw [show ((3:Nat):Int)=3 from rfl];go_upto_region 18 with (at_builtin;(with_reducible refine dJ CO (.tmp 60) (.tmp 62) ?_ ?_ wE ?_ Gr.out.own (aV p8 3 c8) _ ?_ _ ?_ ?_ ?_ ?_ (us++[aV p8 3 c8]) ?_ ?_);rfl;rfl;rfl;rfl;rfl;(rw [Ht.out];omega);(rw [Ht.out];omega);(exact hlo.2);rfl;(intro p3 c3 w3 hO4 hB4 hG4);(rw [IX.out] at hO4 ⊢);(have e9:=(hB4.cell (p:=⟨Y.heap.size,1,none⟩) hlo.1).trans c1);(have f9:=(hB4.frozen (p:=⟨Y.heap.size,1,none⟩) hlo.1).trans f1));have EZ:=Gr.out.cells (aV p8 3 c8) cs hO3 _ HD.out hO4 hG4;clear hO4 hB4 hG4 e9 f9 c1 f1 hO3 Gr IX Ht HD;generalize (w3.setCell ⟨Y.heap.size,1,none⟩ (.slice p3 (s+1) c3))=W5 at *;have AB:=EZ.mono ((aI W5.heap.size W5).drew);have KG:s<2:=by omega
     obtain ⟨q,J5,J2⟩:∃q:Nat,q<256∧(y0:Int) / 2 ^ (1+(s:Int)).toNat=(q:Int):=by
      rcases (show s=0∨s=1 by omega) with rfl | rfl
      ·exact ⟨y0 / 2,by omega,by show (y0:Int) / 2=_;omega⟩
      ·exact ⟨y0 / 4,by omega,by show (y0:Int) / 4=_;omega⟩
     have z1:(q:Int).tmod 2=((q % 2:Nat):Int):=by rw [zO (by omega)];omega
     have z2:(q:Int) % 2=((q % 2:Nat):Int):=by omega
     have z3:q % 2<2:=xR _ (by omega);generalize q % 2=z at *;refine aT (S:=fun Z=>Below Y.heap.size Y Z∧Row oV Z Y.heap.size 61 [⟨.slice pl 3 cl,rfl⟩,aV p3 (s+1) c3,aV pe s ke]) 11 rfl (by kernel_rfl) ⟨EZ.below.drew,EZ.row⟩ fun hS=> ?_;refine tk 0 65 (.pointer (some ⟨Y.heap.size,2,none⟩)) hS ?_;refine tk 1 66 (.slice pe s ke) hS ?_ rfl (qi fun W' h=>by have q2:W'.cell? ⟨Y.heap.size,2,none⟩=some (.slice pe s ke):=(by rw [h.2.cell?];rfl);go_simp);refine tk 2 67 (.pointer (some ⟨w.heap.size,0,none⟩)) hS ?_;refine tk 3 68 (.int .u8 (y0:Int)) hS ?_ rfl (qi fun W' h=>by have q2:=(HX.out W' h.1).1;go_simp);refine tk 4 69 (.int .i64 (s:Int)) hS ?_;refine tk 5 70 (.int .i64 (1+(s:Int))) hS ?_ rfl (yo fun w=>by go_simp<;>exact Hu _ (by omega) (by omega));refine tk 6 71 (.int .u8 (q:Int)) hS ?_ rfl (yo fun w=>by go_simp<;>exact J2);refine tk 7 72 (.int .u8 (z:Int)) hS ?_ rfl (yo fun w=>by go_simp<;>exact Hu _ (by omega) (by omega));refine tk 8 73 (.bool ((z:Int)==0)) hS ?_ rfl (yo fun w=>by go_simp<;>exact Hu _ (by omega) (by omega));refine mG 9 (fun K' hK=> ?_);have hba:=ai (aI W5.drew.heap.size W5.drew) (aj _) (.cells #[.bool ((z:Int)==0)] 4);refine qW (d:=74) (v:= .slice (some ⟨W5.drew.heap.size,0,none⟩) 1 1) (w':=W5.drew.alloc (.cells #[.bool ((z:Int)==0)] 4)) rfl rfl (by first | rfl | kernel_rfl | (simp [execOp,go_sem];done)) ?_;refine hK.out _ _ (And.intro (hS.1.trans (hba.mono hS.1.size)) (hS.2.below hba hS.2.lt)) fun _=> ?_;clear hK hba;simp only [sA,sB,sC];refine mG 10 (fun K' hK=> ?_);have Gf:Mem.Own Value.bool W5.drew B 4 (.slice pe ends.length ke) ends:=by rw [hel.out];exact AB.ends
     have hpe:Value.slice pe s ke= .slice pe ends.length ke:=by rw [hel.out]
     refine fI (w:=W5.drew) (l:=ends) (v:= .slice pe s ke) EM (.tmp 66) (.tmp 74) 59 rfl rfl rfl Eb rfl (hpe▸Gf) ((z:Int)==0) (.bool ((z:Int)==0)) rfl 4 rfl (by rw [hel.out];omega) (by rw [hel.out];omega) AB.lo.2.2 (ends++[(z:Int)==0]) rfl ?_;intro p6 k6 w6 qO iI _;have EW:(ends++[(z:Int)==0]).length=s+1:=by rw [fG,hel.out];rfl
     rw [EW] at qO;have hF:=AB.flags _ qO iI;refine hK.out _ _ (And.intro hF.1.2 hF.1.1) fun _=> ?_;clear hK hS;simp only [Act.put,EW,hel.out,yO,yG,xZ];refine aW (by kernel_rfl) ?_;simp only [List.drop];have f2:=hF.1.1.frozen 2;have g2:w6.cell? ⟨Y.heap.size,2,none⟩=some (.slice pe s ke):=by rw [hF.1.1.cell?];rfl
     have HF:=af hF.2;have Kj:=af EW;clear hF qO iI EZ AB EW Gf hpe;go_wp2_with fail
     go_roundw
     case rel=>exact ⟨s+1,p3,p6,c3,k6,us++[aV p8 3 c8],rows++[cs],ends++[(z:Int)==0],by omega,by go_num,Kj.out,HF⟩
     case measure=>simp [intOf]<;>omega
  ·obtain rfl:s=sn:=by omega
   have hM:=HM.out;have hr0:=HR2.out.below hM.below hl2;have Jo:=hB.trans (hM.below.mono hB.size);have hcl:=Km.out.below hM.below;have hrow:=hM.row
   go_wp2_with (first
    | ((with_reducible refine zL hrow.at lJ rfl (C:=#[.slice pl 3 cl, .slice pr s kr, .slice pe s ke]) ?_))
    | ((with_reducible refine zS (l':=[⟨.slice pl 3 cl,rfl⟩,aV pr s kr,aV pe s ke]) hr0 lJ ?_);(intro Z JU Fq KO)))
   refine o6 (v:= .agg #[.slice pl 3 cl, .slice pr s kr, .slice pe s ke]) (dQ (f:=oV) (l:=[⟨.slice pl 3 cl,rfl⟩,aV pr s kr,aV pe s ke]) rfl _ lJ (w.heap.size+1) 0 rfl JU.at) rfl ?_
   have JQ:fq 4 aS Z (.slice pl 3 cl) Ev.Gv:=by
    rcases hcl with ⟨p,_,e0⟩ | ⟨b,o,c,e,h1,h2,h3⟩
    ·cases e0
    ·have hne:b≠w.heap.size+1:=by
      rintro rfl;have h9:=h2 0 (by decide) 0 (by decide);rw [hr0.cell?] at h9;generalize o+0 * 4+0=z at h9
      match z,h9 with
      | 0,h9=>cases h9
      | 1,h9=>cases h9
      | 2,h9=>cases h9
      | _+3,h9=>cases h9
     exact .inr ⟨b,o,c,e,h1,fun i hi=>(h2 i hi).grown Fq h3 (fun e=>by injection e with e;exact hne e),bY h3 Fq.size⟩
   have hn:=hM.JS Fq hl2 JQ;have hrl:=hM.rl;exact ⟨⟨Ev.Gv,rows,ends⟩,pl,pr,pe,cl,kr,ke,by show _=Ending.returned (.agg #[.slice pl 3 cl, .slice pr rows.length kr, .slice pe ends.length ke]);rw [hrl,hel.out],by show dB Z (.agg #[.slice pl 3 cl, .slice pr rows.length kr, .slice pe ends.length ke]) _;rw [hrl,hel.out];exact hn,Jo.grown Fq Jo.size (fun g e=>by cases e;omega)⟩
end Go.Proofs.YtngjelolnfgnbaaGreatDoor
