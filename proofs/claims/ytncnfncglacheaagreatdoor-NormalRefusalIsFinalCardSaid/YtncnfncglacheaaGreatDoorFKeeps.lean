/- Part of a proof. -/
import Derived.Test.YtncnfncglacheaaGreatDoorFMemb
set_option linter.all false
set_option maxRecDepth 100000
set_option maxHeartbeats 64000000
namespace Go.Proofs.YtncnfncglacheaaGreatDoor
section
open Go.RowKit Mem
def NZ.Ak (N:NZ) (bs:List UInt8):List UInt8:=(N.run ⟨0,false,[]⟩ bs).out
end
section
open Go Go.RowKit Mem
attribute [local go_sem] XO
theorem adI {D:Nat→Prop} {A B:World} {v:Value} {l:List UInt8} (h:Rd aV A v l) (hk:eX D A B) (hd:∀b o,v= .slice (some ⟨b,o,none⟩) l.length (match v with | .slice _ _ c=>c | _=>0)→¬D b):Rd aV B v l:=by
 rcases h with hn | ⟨b,o,cap,rfl,hc,ha,hlt⟩
 ·exact .inl hn
 ·refine .inr ⟨b,o,cap,rfl,hc,fun i hi=> ?_,bO hlt hk.1⟩;have h1:=ha i hi;rw [bM hi] at h1 ⊢;have xZ:A.heap[b]?=some A.heap[b]:=Array.getElem?_eq_getElem hlt
  have hcell:(A.heap[b]).isCells=true:=by
   unfold World.cell? at h1;rw [xZ] at h1;cases hx:A.heap[b] with
   | cells _ _ _=>rfl
   | _=>rw [hx] at h1;simp at h1
  have h2:=hk.2 b _ (hd b o rfl) xZ hcell;exact (nU (a:=⟨b,o+i,none⟩) (h2.trans xZ.symm)).trans h1
theorem eX.step {D:Nat→Prop} {W A B:World} (h:eX D W A) (hb:Below W.heap.size A B):eX D W B:=
 ⟨aL h.1 hb.size,fun r o hd ho hc=>(hb.block r (jg.1 ho).1).trans (h.2 r o hd ho hc)⟩
theorem eX.cell {D:Nat→Prop} {A B:World} {b i:Nat} {v:Value} (h:eX D A B) (hc:A.cell? ⟨b,i,none⟩=some v) (hd:¬D b):B.cell? ⟨b,i,none⟩=some v:=by
 have h1:=hc;unfold World.cell? at h1;cases hx:A.heap[b]? with
 | none=>simp only [hx] at h1;cases h1
 | some o=>
  have ho:o.isCells=true:=by
   cases o with
   | cells _ _ _=>rfl
   | _=>simp only [hx] at h1;cases h1
  exact (nU (a:=⟨b,i,none⟩) ((h.2 b o hd hx ho).trans hx.symm)).trans hc
def o8 (m0:Nat) (w:World) (u:Value) (x:List UInt8):Prop:=(u= .slice none 0 0∧x=[])∨∃b o cap,u= .slice (some ⟨b,o,none⟩) x.length cap∧x.length≤cap∧At aV w b o x∧b<w.heap.size∧m0≤b
theorem o8.rd {m0:Nat} {w:World} {u:Value} {x:List UInt8} (h:o8 m0 w u x):Rd aV w u x:=by
 rcases h with ⟨rfl,rfl⟩ | ⟨b,o,cap,rfl,h1,h2,h3,_⟩
 ·exact .inl ⟨none,rfl,rfl⟩
 ·exact .inr ⟨b,o,cap,rfl,h1,h2,h3⟩
theorem o8.keep {m0:Nat} {A B:World} {u:Value} {x:List UInt8} (h:o8 m0 A u x) (hk:eX (fun _=>False) A B):o8 m0 B u x:=by
 rcases h with h | ⟨b,o,cap,rfl,h1,h2,h3,h4⟩
 ·exact .inl h
 ·refine .inr ⟨b,o,cap,rfl,h1,fun i hi=> ?_,bO h3 hk.1,h4⟩;have:=h2 i hi;rw [bM hi] at this ⊢;exact eX.cell hk this (fun h=>h)
theorem Qj {m0:Nat} {w:World} {base:Nat} {t:TypeId} {u:Value} {x:List UInt8} (h:Mem.Own aV w base t u x) (hm:m0≤base):o8 m0 w u x:=by
 have hr:=h.rd;rcases h.2 with ⟨rfl,h0⟩ | ⟨g,cap,cur,rfl,hl,_⟩
 ·exact .inl ⟨rfl,vR.1 (by simpa using h0)⟩
 ·rcases hr with ⟨p,e,rfl⟩ | ⟨b,o,c,e,h1,h2,h3⟩
  ·cases e;have:=h.lt g rfl;exact .inr ⟨g,0,0,rfl,ah _,fun i hi=>by simp at hi,this.2,aL hm this.1⟩
  ·cases e;exact .inr ⟨g,0,cap,rfl,h1,h2,h3,aL hm (h.lt g rfl).1⟩
def ScG (m0:Nat) (al:List UInt8) (most:Nat) (pre:List (Sc.Wd×Value)) (x:Sc.Wd×Value) (W:World):Prop:=o8 m0 W x.2 x.1∧pre.map Prod.fst++[x.1]<+:Sc.upTo al (most+1)
theorem ZR (n:Nat) (hn:1≤n) (w:World) (al:List UInt8) (most:Nat) (va:Value) (sb:Nat) (D:Nat→Prop) (hc0:w.cell? ⟨sb,0,none⟩=some va) (hc1:w.cell? ⟨sb,1,none⟩=some (.int .i64 most)) (hva:Rd aV w va al) (hsl:sb<w.heap.size) (hsd:¬D sb) (hvd:∀b o n c,va= .slice (some ⟨b,o,none⟩) n c→¬D b)
  (hD:∀r,w.heap.size≤r→¬D r) (ha:1≤al.length∧al.length≤4) (hm:most≤8):
  aec Fence.wide n Tryz.prog 87 #[.pointer (some ⟨sb,0,none⟩)] (fun x:Sc.Wd×Value=> #[x.2]) (ScG w.heap.size al most) (eX D) (fun xs=>xs.map Prod.fst=Sc.upTo al (most+1)) (fun pre=>pre.map Prod.fst<+:Sc.upTo al (most+1)) w:=by
 intro l J Jx W hW hJ hJx hY h0'
 have SQ:Hid (∀X,eX D W X→X.cell? ⟨sb,0,none⟩=some va∧X.cell? ⟨sb,1,none⟩=some (.int .i64 most)∧Rd aV X va al):=af fun X hX=>by
  refine ⟨hX.cell ((hW.cell (p:=⟨sb,0,none⟩) hsl).trans hc0) hsd,hX.cell ((hW.cell (p:=⟨sb,1,none⟩) hsl).trans hc1) hsd,adI (hva.below hW) hX (fun b o h=>hvd b o _ _ h)⟩
 obtain ⟨pv,cv,rfl⟩:=hva.slice;have HD:∀r,W.heap.size≤r→¬D r:=fun r h=>hD r (aL hW.size h);have HY:=af hY;have HJ:=af hJ;have HJX:=af hJx;clear hY hJ hJx hc0 hc1 hva hvd hD;refine callsIn_of_wp Tryz.func87 rfl trivial ?_ rfl;simp only [Tryz.ntmps87,AZ,nQ,PS,Nat.reduceAdd,Nat.reduceSub,qcp,qcq,qcL,qcE,J4,T9];have hK0:eX D W (W.alloc (.cells #[.slice none 0 0] 22)):=eX.Rc ((au _ _).alloc (ah _) _)
 have hL0:jU (W.alloc (.cells #[.slice none 0 0] 22)) W.heap.size (.slice (some ⟨W.heap.size,0,none⟩) 1 1) (Sc.lvl al 0):=
  ⟨[on],rfl,Own.new (f:=oV) (l:=[on]) W _ W.heap.size (ah _) rfl (by unfold maxLen;simp),fun i h h2=>by
   have:i=0:=by simp at h;omega
   subst this
   exact Own.nil _ _ _⟩
 have hJ0:=HJ.out _ _ _ h0' ((au W.heap.size W).alloc (ah _) (.cells #[.slice none 0 0] 22))
 gi_wp2_with fail
 generalize (W.alloc (.cells #[.slice none 0 0] 22))=W1 at hK0 hL0 hJ0 ⊢
 gi_loopw [3,4] (fun lv i wr=>∃(k:Nat) (pre:List (Sc.Wd×Value)),k≤most+1∧i= .int .i64 k∧jU wr W.heap.size lv (Sc.lvl al k)∧pre.map Prod.fst=Sc.upTo al k∧J pre wr∧eX D W wr) (fun _ i _=>most+1 - (intOf i).toNat)
 case atStart=>exact ⟨0,[],by omega,rfl,hL0,rfl,hJ0,hK0⟩
 case round=>
  clear hK0 hL0 hJ0;obtain ⟨k,pre,hk,rfl,hL,hpre,TV,hK⟩:=hrel;have HL:=af hL;obtain ⟨pl,cl,rfl⟩:=hL.slice;clear hL;obtain ⟨q0,q1,q2⟩:=SQ.out _ hK;by_cases hlt:k≤most
  ·have hq:(k:Int)≤(most:Int):=by omega
   have hll:=Sc.IP al k ha.2 (by omega)
   gi_wp2_with fail
   have hBn:W.heap.size≤wr.heap.size:=hK.1;have hlr:∀g,(Value.slice pl (Sc.lvl al k).length cl).ownBlock=some g→g<wr.heap.size:=fun g hg=>(HL.out.row g hg).2;obtain ⟨Bn,hBw⟩:∃Bn,Bn=wr.heap.size:=⟨_,rfl⟩
   rw [← hBw] at hBn hlr;have hBw':Bn≤wr.heap.size:=Iq hBw;clear hBw
   gi_loopw [5,19] (fun nv j wq=>∃(i:Nat) (pre:List (Sc.Wd×Value)),i≤(Sc.lvl al k).length∧j= .int .i64 i∧Bn≤wq.heap.size∧jU wq Bn nv (Sc.bY al ((Sc.lvl al k).take i))∧jU wq W.heap.size (.slice pl (Sc.lvl al k).length cl) (Sc.lvl al k)∧pre.map Prod.fst=Sc.upTo al k++(Sc.lvl al k).take i∧J pre wq∧eX D W wq) (fun _ j _=>(Sc.lvl al k).length - (intOf j).toNat)
   case atStart=>exact ⟨0,pre,by omega,rfl,hBw',jU.nil _ _,HL.out,by rw [hpre];simp,TV,hK⟩
   case round=>
    clear q0 q1 q2 hpre TV hK HL hBw';obtain ⟨i,pre,hi,rfl,hBq,hN,hL,hpre,TV,hK⟩:=hrel;have HN:=af hN;have HL:=af hL;have HP:=af hpre;obtain ⟨pn,cn,rfl⟩:=hN.slice;clear hN hL hpre;by_cases hil:i<(Sc.lvl al k).length
    ·obtain ⟨bl,qw,mw,cw,rfl,cc,rfl,DW⟩:=HL.out.elem i hil;have hqi:(i:Int)<((Sc.lvl al k).length:Int):=by omega
     have hG:ScG w.heap.size al most pre ((Sc.lvl al k)[i], .slice qw (Sc.lvl al k)[i].length cw) wr:=by
      refine ⟨Qj DW hW.size,?_⟩;rw [HP.out]
      have e:Sc.upTo al k++(Sc.lvl al k).take i++[(Sc.lvl al k)[i]]=Sc.upTo al k++(Sc.lvl al k).take (i+1):=by
       rw [AX hil,ze]
      show Sc.upTo al k++(Sc.lvl al k).take i++[(Sc.lvl al k)[i]]<+:_;rw [e];refine List.IsPrefix.trans (List.prefix_append_right_inj _ |>.2 (List.take_prefix _ _)) ?_;rw [← Sc.kC];exact Sc.Ed al (by omega)
     have hwl:(Sc.lvl al k)[i].length=k:=Sc.Fh al k _ (pJ hil);have HW:=af (And.intro hG hwl);obtain ⟨fn,tmps,assign,body,hy,hR⟩:=HY.out pre ((Sc.lvl al k)[i], .slice qw (Sc.lvl al k)[i].length cw) wr TV hG;dsimp only at hy;clear hG hwl;have HOW:=af DW;clear DW
     gi_wp2
     refine hR.mono ?_;rintro e W2 (⟨rfl,hJ2,hk2⟩ | ⟨rfl,acR⟩)
     ·clear hy hR;have hK2:=hK.trans hk2;obtain ⟨q0,q1,q2⟩:=SQ.out _ hK2;have Me:=HN.out.keep hk2 (fun r h=>HD r (by omega));have hL2:=HL.out.keep hk2 HD;have hO2:=hk2.own HOW.out HD;have adT:=aL hBq hk2.1
      have hP2:(pre++[((Sc.lvl al k)[i],Value.slice qw (Sc.lvl al k)[i].length cw)]).map Prod.fst=Sc.upTo al k++(Sc.lvl al k).take (i+1):=by
       rw [xm,HP.out,AX hil,ze];rfl
      have HP2:=af hP2;have HT:=af (Sc.Bw al (Sc.lvl al k) i hil);clear hP2 TV hK HP HOW HN;have HWL:=af HW.out.2;clear HW HL;generalize hpx:pre++[((Sc.lvl al k)[i],Value.slice qw (Sc.lvl al k)[i].length cw)]=ad3 at hJ2 HP2;clear hpx
      gi_wp2_with fail
      gi_loopw [5,30] (fun nv j wq=>∃(jj:Nat),jj≤al.length∧j= .int .i64 jj∧Bn≤wq.heap.size∧jU wq Bn nv (Sc.bY al ((Sc.lvl al k).take i)++(al.take jj).map fun b=>(Sc.lvl al k)[i]++[b])∧jU wq W.heap.size (.slice (some ⟨bl,0,none⟩) (Sc.lvl al k).length cl) (Sc.lvl al k)∧Mem.Own aV wq W.heap.size 5 (.slice qw (Sc.lvl al k)[i].length cw) (Sc.lvl al k)[i]∧J ad3 wq∧eX D W wq) (fun _ j _=>al.length - (intOf j).toNat)
      case atStart=>exact ⟨0,by omega,rfl,adT,by simpa using Me,hL2,hO2,hJ2,hK2⟩
      case round=>
       clear Me hL2 hO2 hJ2 hK2 q0 q1 q2 adT;obtain ⟨jj,hj,rfl,VA,hN,hL,hO,hJ3,hK3⟩:=hrel;have HN:=af hN;obtain ⟨pn',cn',rfl⟩:=hN.slice;clear hN;by_cases hjl:jj<al.length
       ·obtain ⟨q0,q1,q2⟩:=SQ.out _ hK3
        obtain ⟨bv,ov,rfl,Yt⟩:∃b o,pv=some ⟨b,o,none⟩∧At aV wr b o al:=by
         rcases q2 with ⟨_,_,h0⟩ | ⟨b,o,cap,h1,_,ha,_⟩
         ·rw [h0] at hjl;simp at hjl
         ·cases h1;exact ⟨b,o,rfl,ha⟩
        have cb:wr.cell? ⟨bv,ov+jj,none⟩=some (.int .u8 (al[jj].toNat:Int)):=(Yt jj hjl).trans (by rw [bM hjl];rfl);have hqj:(jj:Int)<(al.length:Int):=by omega
        have hbl:bl<Bn:=hlr bl rfl;clear Yt q2
        gi_wp2_with fail
        refine ⟨trivial,?_⟩;refine (Ey.2 (VH wr _ (Sc.lvl al k)[i] hO.rd (by rw [HWL.out];omega))).mono ?_;rintro e W3 ⟨v1,rfl,mE,hB1⟩;obtain ⟨p1,k1,rfl⟩:=mE.slice;obtain ⟨vals,hv1,hv2,hv3⟩:=HN.out
        have hvl:vals.length≤1048580:=by
         rw [hv1,fq,fD,LV,Sc.vL,LV];have h1:min i (Sc.lvl al k).length * al.length≤262144 * 4:=qdB (by omega) ha.2;omega
        have ahM:(Sc.lvl al k)[i].length≤9:=by rw [HWL.out];omega
        have HV:=af (And.intro hv1 (And.intro hv2 hv3));have HO1:=af mE;have hpv:(Value.slice pn' (Sc.bY al ((Sc.lvl al k).take i)++(al.take jj).map fun b=>(Sc.lvl al k)[i]++[b]).length cn')= .slice pn' vals.length cn':=by rw [hv1]
        rw [hpv] at hv2;clear hv1 hv3;have HS4:Hid (∀X,Below wr.heap.size wr X→Mem.Own oV X Bn 22 (.slice pn' vals.length cn') vals):=af fun X hX=>hv2.below' hX;clear hv2;have MV:Bn≤W3.heap.size:=aL VA hB1.size;rw [hpv];clear hpv
        gi_wp2_with (first
         | (gi_at_builtin;(with_reducible refine rQ xV (.tmp 36) (.tmp 38) ?_ ?_ j4 ?_ mE al[jj] _ ?_ _ ?_ ?_ ?_ ?_ ((Sc.lvl al k)[i]++[al[jj]]) ?_ ?_);rfl;rfl;rfl;rfl;rfl;(omega);(omega);(exact hB1.size);rfl;(intro p2 c2 W4 hO2 hB2 hG2);(have hB4:Below wr.heap.size wr W4:=hB1.trans hB2);(have hN4:=HS4.out _ hB4);(have aeZ:=aL MV hB2.size))
         | (gi_at_builtin;(with_reducible refine rQ aa3 (.tmp 34) (.tmp 40) ?_ ?_ bF ?_ hN4 (dI p2 ((Sc.lvl al k)[i].length+1) c2) _ ?_ _ ?_ ?_ ?_ ?_ (vals++[dI p2 ((Sc.lvl al k)[i].length+1) c2]) ?_ ?_);rfl;rfl;rfl;rfl;rfl;(omega);(omega);(exact aeZ);rfl;(intro p3 c3 W5 hO3 hB3 hG3)))
        have hlen:((Sc.lvl al k)[i]++[al[jj]]).length=(Sc.lvl al k)[i].length+1:=by simp
        rw [hlen] at hO2;have yw:(vals++[dI p2 ((Sc.lvl al k)[i].length+1) c2]).length=vals.length+1:=by simp
        rw [yw] at hO3;have SB:=hN4.alloc (.cells #[.slice p2 ((Sc.lvl al k)[i].length+1) c2] 22);have afG:Below W4.heap.size W4 (W4.alloc (.cells #[.slice p2 ((Sc.lvl al k)[i].length+1) c2] 22)):=(au _ _).alloc (ah _) _;have zU:Below W.heap.size wr W5:=(hB4.mono (aL hBn VA)).trans (hB3.mono hBn);have hnew:Mem.Own aV W5 Bn 5 (.slice p2 ((Sc.lvl al k)[i].length+1) c2) ((Sc.lvl al k)[i]++[al[jj]]):=((hO2.mono VA).alloc _).dK hG3 (mK (hO2.alloc _) SB (by decide))
        have hold:∀a (h:a<vals.length) (h2:a<(Sc.bY al ((Sc.lvl al k).take i)++(al.take jj).map fun b=>(Sc.lvl al k)[i]++[b]).length),Mem.Own aV W5 Bn 5 (oV vals[a]) ((Sc.bY al ((Sc.lvl al k).take i)++(al.take jj).map fun b=>(Sc.lvl al k)[i]++[b])[a]):=fun a h h2=>
         (((HV.out.2.2 a h h2).below' hB4).alloc _).dK hG3 (mK (((HV.out.2.2 a h h2).below' hB4).alloc _) SB (by decide))
        have afI:jU W5 W.heap.size (.slice (some ⟨bl,0,none⟩) (Sc.lvl al k).length cl) (Sc.lvl al k):=((hL.below hB4).below afG).app SB hG3 (fun g hg e=>by cases hg;have:=(SB.lt _ e.symm).1;simp only at this;omega);have ahe:=((hO.below' hB4).alloc (.cells #[.slice p2 ((Sc.lvl al k)[i].length+1) c2] 22)).dK hG3 (mK ((hO.below' hB4).alloc _) SB (by decide));refine ⟨⟨jj+1,by omega,by go_num,aL aeZ hB3.size,?_,afI,ahe,HJ.out _ _ _ hJ3 zU,hK3.step zU⟩,by simp [intOf];omega⟩;rw [Sc.map_take al _ jj hjl,← ze];exact jU.snoc (x:=dI p2 ((Sc.lvl al k)[i].length+1) c2) HV.out.1 hold hnew hO3
       ·have hjj:jj=al.length:=by omega
        have hqj:¬(jj:Int)<(al.length:Int):=by omega
        have hN6:=HN.out;rw [hjj,qj (ah _),← HT.out] at hN6;have HN6:=af hN6;have he:(Sc.bY al ((Sc.lvl al k).take i)++(al.take jj).map fun b=>(Sc.lvl al k)[i]++[b]).length=(Sc.bY al ((Sc.lvl al k).take (i+1))).length:=by rw [HT.out,hjj,qj (ah _)]
        rw [he];clear hN6 he
        gi_wp2
        exact ⟨⟨i+1,ad3,by omega,by go_num,VA,HN6.out,hL,HP2.out,hJ3,hK3⟩,by simp [intOf];omega⟩
     ·gi_wp2
      refine fJ (v:= .tuple #[]) (by simp [results,Tryz.results87,go_sem]) rfl ?_;exact ⟨⟨_,rfl⟩, .inr ⟨_,by rw [xm];exact HW.out.1.2,acR⟩⟩
    ·have hii:i=(Sc.lvl al k).length:=by omega
     have hqi:¬(i:Int)<((Sc.lvl al k).length:Int):=by omega
     have ht:(Sc.lvl al k).take i=Sc.lvl al k:=qj (by omega)
     gi_wp2
     exact ⟨⟨k+1,pre,by omega,by go_num,by have h:=HN.out.mono hBn;rw [ht] at h ⊢;exact h,by rw [HP.out,ht,Sc.kC],TV,hK⟩,by simp [intOf];omega⟩
  ·have hkk:k=most+1:=by omega
   have hq:¬(k:Int)≤(most:Int):=by omega
   gi_wp2
   go_end0;exact ⟨⟨_,rfl⟩, .inl ⟨pre,by rw [hpre,hkk],TV⟩⟩
end
section
open Go Go.RowKit Mem
theorem adA (w:World) (va:Value) (most:Int) (pa:Option Addr) (na ca:Nat) (h:va= .slice pa na ca):Calls Tryz.prog 44 #[.agg #[va, .int .i64 most]] w fun e w'=>e= .returned (.func (.func 87) #[] #[.pointer (some ⟨w.heap.size,0,none⟩)])∧w'=w.alloc (.cells #[va, .int .i64 most] 30):=by
 subst h;have y9:∀(fn:Fn) (first cap:Array Value) (w:World),(Instr.makeFunc fn first cap).run Tryz.prog w= .ok (.func fn first cap) w:=fun _ _ _ _=>rfl;go_enter Tryz.func44,Tryz.ntmps44;go_wp2;go_ret;exact ⟨rfl,rfl⟩
theorem EW (al:List UInt8) (n:Nat) (ha:al.length≤4) (hn:n≤9):(Sc.upTo al n).length≤262144 * n:=by
 induction n with
 | zero=>simp [Sc.upTo]
 | succ n ih=>
  rw [Sc.kC,fq];have:=Sc.IP al n ha (by omega);have:=ih (by omega);omega
def rF (al:List UInt8) (most:Nat):Int:=if 4096<(Sc.upTo al (most+1)).length then 2 else 0
theorem Qa (w:World) (va:Value) (al:List UInt8) (most:Nat) (hva:Rd aV w va al) (ha:1≤al.length∧al.length≤4) (hm:most≤8) (acE:∀i (h:i+1<al.length),al[i].toNat<al[i+1].toNat):
  Calls Tryz.prog 43 #[.agg #[va, .int .i64 most]] w fun e w'=>e= .returned (.int .i64 (rF al most))∧Below w.heap.size w w':=by
 have Lf:=af hva;obtain ⟨pa,ca,rfl⟩:=hva.slice
 obtain ⟨ba,oa,rfl,hat,hlb⟩:∃b o,pa=some ⟨b,o,none⟩∧At aV w b o al∧b<w.heap.size:=by
  rcases hva with ⟨_,_,h0⟩ | ⟨b,o,cap,h1,_,ha',hl⟩
  ·rw [h0] at ha;simp at ha
  ·cases h1;exact ⟨b,o,rfl,ha',hl⟩
 have HAT:=af hat;clear hva hat;go_enter Tryz.func43,Tryz.ntmps43;go_upto_region 1 with (fail)
 obtain ⟨W,hW,hB,hs,g0⟩:∃W,(w.alloc (.cells #[.slice (some ⟨ba,oa,none⟩) al.length ca, .int .i64 most] 30))=W∧Below w.heap.size w W∧w.heap.size+1≤W.heap.size∧W.heap[w.heap.size]?=some (.cells #[.slice (some ⟨ba,oa,none⟩) al.length ca, .int .i64 most] 30 (0,0)):=
  ⟨_,rfl,ai (au _ _) (ah _) _,by simp,World.alloc_heap_new _ _⟩
 rw [hW];clear hW
 have HC:Hid (∀X,Below W.heap.size W X→X.cell? ⟨w.heap.size,0,none⟩=some (.slice (some ⟨ba,oa,none⟩) al.length ca)∧X.cell? ⟨w.heap.size,1,none⟩=some (.int .i64 most)∧At aV X ba oa al∧Below w.heap.size w X):=af fun X hX=>by
  have h:=(hX.block w.heap.size (by omega)).trans g0;have hw:=hB.trans (hX.mono hB.size);refine ⟨?_,?_,HAT.out.below hw hlb,hw⟩<;>(unfold World.cell?;rw [h];rfl)
 clear g0 HAT hB hs;have q1:¬(al.length:Int)<1:=by omega
 have q2:¬(4:Int)<(al.length:Int):=by omega
 have q3:¬(most:Int)<0:=by omega
 have q4:¬(8:Int)<(most:Int):=by omega
 have b1:decide ((al.length:Int)<1)=false:=jI q1;have b2:decide ((4:Int)<(al.length:Int))=false:=jI q2;have b3:decide ((most:Int)<0)=false:=jI q3;have b4:decide ((8:Int)<(most:Int))=false:=jI q4;obtain ⟨c0,c1,hA,_⟩:=HC.out W (au _ _);go_wp2_with fail
 go_loopw [4] (fun i wr=>∃(k:Nat),1≤k∧k≤al.length∧i= .int .i64 k∧Below W.heap.size W wr) (fun i _=>al.length - (intOf i).toNat)
 case atStart=>exact ⟨1,by omega,ha.1,rfl,au _ _⟩
 case round=>
  clear c0 c1 hA;obtain ⟨k,hk1,hk,rfl,hX⟩:=hrel;obtain ⟨c0,c1,hA,hw⟩:=HC.out _ hX;by_cases hlt:k<al.length
  ·have hq:(k:Int)<(al.length:Int):=by omega
   obtain ⟨j,rfl⟩:∃j,k=j+1:=⟨k - 1,by omega⟩
   have ca1:wr.cell? ⟨ba,oa+j,none⟩=some (.int .u8 (al[j].toNat:Int)):=(hA j (by omega)).trans (by rw [bM (by omega)];rfl);have ca2:wr.cell? ⟨ba,oa+(j+1),none⟩=some (.int .u8 (al[j+1].toNat:Int)):=(hA (j+1) hlt).trans (by rw [bM hlt];rfl);have hlt2:=acE j hlt;have XG:¬((al[j+1].toNat:Nat):Int)≤((al[j].toNat:Nat):Int):=by omega
   have hqj:(j:Int)<(al.length:Int):=by omega
   clear hA;go_upto_region 7 with (fail);go_region;go_wp2_with fail
   go_roundw
   case rel=>exact ⟨j+1+1,by omega,by omega,by go_num,hX.drew⟩
   case measure=>simp [intOf];omega
  ·have hkk:k=al.length:=by omega
   have hq:¬(k:Int)<(al.length:Int):=by omega
   go_wp2_with fail
   go_loopw [5,6,46] (fun x y i wq=>∃(j:Nat),j≤most+1∧i= .int .i64 j∧x= .int .i64 ((Sc.upTo al j).length:Nat)∧y= .int .i64 ((Sc.lvl al j).length:Nat)∧Below W.heap.size W wq) (fun _ _ i _=>most+1 - (intOf i).toNat)
   case atStart=>exact ⟨0,by omega,rfl,rfl,rfl,hX⟩
   case round=>
    clear c0 c1 hA hw hX;obtain ⟨j,hj,rfl,rfl,rfl,hX⟩:=hrel;obtain ⟨c0,c1,hA,hw⟩:=HC.out _ hX;by_cases hjl:j<most+1
    ·have hq2:(j:Int)<(most:Int)+1:=by omega
     have w1:wrap64 (((Sc.upTo al j).length:Int)+((Sc.lvl al j).length:Int))=((Sc.upTo al (j+1)).length:Int):=by
      have h1:=EW al j ha.2 (by omega);have h2:=Sc.IP al j ha.2 (by omega);rw [Sc.kC,fq];unfold wrap64;omega
     have w2:wrap64 (((Sc.lvl al j).length:Int) * (al.length:Int))=((Sc.lvl al (j+1)).length:Int):=by
      have h2:=Sc.IP al j ha.2 (by omega);have h3:(Sc.lvl al (j+1)).length=(Sc.lvl al j).length * al.length:=Sc.vL al _;have h4:(Sc.lvl al j).length * al.length≤262144 * 4:=qdB h2 ha.2;have h8:((Sc.lvl al j).length:Int) * (al.length:Int)=(((Sc.lvl al j).length * al.length:Nat):Int):=by simp
      rw [h8,h3];generalize (Sc.lvl al j).length * al.length=M at h4 ⊢;unfold wrap64;omega
     go_wp2_with fail
     go_roundw
     case rel=>exact ⟨j+1,by omega,by go_num,by first | rfl | rw [w1],by first | rfl | rw [w2],hX⟩
     case measure=>simp [intOf];omega
    ·have hjj:j=most+1:=by omega
     have hq2:¬(j:Int)<(most:Int)+1:=by omega
     rw [hjj];have HE:=af (show rF al most=if 4096<(Sc.upTo al (most+1)).length then 2 else 0 from rfl);by_cases hbig:(4096:Int)<((Sc.upTo al (most+1)).length:Int)
     ·have he:rF al most=2:=by rw [HE.out,aC (by omega)]
      go_wp2;go_ret;exact ⟨by first | rfl | (rw [he];rfl),hw⟩
     ·have he:rF al most=0:=by rw [HE.out,aF (by omega)]
      go_wp2;go_ret;exact ⟨by first | rfl | (rw [he];rfl),hw⟩
end
end Go.Proofs.YtncnfncglacheaaGreatDoor
