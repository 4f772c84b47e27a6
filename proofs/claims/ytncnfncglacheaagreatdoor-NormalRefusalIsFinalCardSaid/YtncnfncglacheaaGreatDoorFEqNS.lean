/- Part of a proof. -/
import Derived.Test.YtncnfncglacheaaGreatDoorFMeets
import Derived.Test.YtncnfncglacheaaGreatDoorFCanP
set_option linter.all false
set_option maxRecDepth 100000
set_option maxHeartbeats 64000000
namespace Go.Proofs.YtncnfncglacheaaGreatDoor
section
open Go Go.RowKit Mem
def Cw (D:DF) (b:List UInt8) (later:List Bool) (live:List UInt64) (lazy:Bool):Nat→Nat→Nat→Int→Int
 | 0,_,_,best=>best
 | f+1,q,s,best=>
  let hit:=D.ac.getD s false && later.getD q false
  let best:=if hit then (q:Int) else best
  if hit && lazy then best
  else if decide (q=b.length) || !mU (live.getD q 0) s then best
  else Cw D b later live lazy f (q+1) (D.to s (b.getD q 0)) best
theorem VD (s:UInt64) (q:Nat) (h:q<64):(bits .and .u64 (X s / 2 ^ q) 1==0)= !mU s q:=by
 have h1:=OE s q h;rw [uU s q h,show (1:Int)=X 1 from rfl,qm] at h1 ⊢
 have h2:((s>>>UInt64.ofNat q) &&& 1).toNat<2:=by
  rw [Ra,show (1:UInt64).toNat=2 ^ 1 - 1 from rfl,Nat.and_two_pow_sub_one_eq_mod];omega
 unfold mU;generalize (s>>>UInt64.ofNat q) &&& 1=y at *
 have h3:y=0∨y=1:=by
  rcases (by omega:y.toNat=0∨y.toNat=1) with h | h
  ·exact .inl (Ub.1 h)
  ·exact .inr (Ub.1 h)
 rcases h3 with rfl | rfl<;>rfl
theorem adq {w:World} {p:Option Addr} {n c:Nat} {l:List UInt64} (hu:Rd uV w (.slice p n c) l) (k:Nat) (hk:k<n):∃(b o:Nat),p=some ⟨b,o,none⟩∧∀X',Below w.heap.size w X'→X'.cell? ⟨b,o+k,none⟩=some (.int .u64 (X (l.getD k 0))):=by
 have hl:=hu.len;obtain ⟨b,o,rfl,_,_,ha,hlt⟩:=hu.nonempty (by omega);have hkl:k<l.length:=by omega
 exact ⟨b,o,rfl,fun X' hX=>((hX.cell (p:=⟨b,o+k,none⟩) hlt).trans (ha k hkl)).trans (by rw [bM hkl,dD,bM hkl];rfl)⟩
theorem ZB (D:DF) (b:List UInt8) (later:List Bool) (live:List UInt64) (lazy:Bool) (f q s:Nat) (best:Int):Cw D b later live lazy (f+1) q s best=(let hit:=D.ac.getD s false && later.getD q false;let best:=if hit then (q:Int) else best;if hit && lazy then best else if decide (q=b.length) || !mU (live.getD q 0) s then best else Cw D b later live lazy f (q+1) (D.to s (b.getD q 0)) best):=rfl
theorem adR (w:World) (mb n nl nv mO kb kl kv:Nat) (lazy:Bool) (D:DF) (pb pl pv:Option Addr) (b:List UInt8) (later:List Bool) (live:List UInt64) (hM:uO w mb D) (hD:D.Ok) (h64:D.nx.length≤64) (hb:Rd aV w (.slice pb n kb) b) (hl:Rd Value.bool w (.slice pl nl kl) later) (hv:Rd uV w (.slice pv nv kv) live) (hnl:n<nl) (hnv:n<nv) (hat:mO≤n) (hn:n≤65535):
  Calls Tryz.prog 221 #[.pointer (some ⟨mb,0,none⟩), .slice pb n kb, .int .i64 (mO:Int), .slice pl nl kl, .slice pv nv kv, .bool lazy] w fun e w'=>e= .returned (.int .i64 (Cw D b later live lazy (n+1 - mO) mO 0 (-1)))∧∃m,w'=w.drewN m:=by
 have hbl:=hb.len;obtain ⟨vc,⟨yS,ahc⟩,⟨yG,afD⟩,hmr,hmn,hma⟩:=id hM;obtain ⟨pa,ka,rfl⟩:=hma.slice;have HM:=af hM;have HD:=af hD;have HB:=af hb;have HL:=af hl;have HV:=af hv;have HA:=af hma;have HR:=af hmr;obtain ⟨m,Hm⟩:∃m,Hid (D.ac.length=m):=⟨_,af rfl⟩
 have agd:m≤64:=by rw [← Hm.out,hD.ac];exact h64
 have hm0:0<m:=by rw [← Hm.out,hD.ac];exact hD.n1
 have HX:Hid (D.nx.length=m):=af (by rw [← Hm.out];exact hD.ac.symm);have GU:Hid (b.length=n):=af hbl.symm;rw [Hm.out] at HR;obtain ⟨R,HRR⟩:∃R,Hid (Cw D b later live lazy (n+1 - mO) mO 0 (-1)=R):=⟨_,af rfl⟩
 rw [HRR.out];clear hM hD hb hl hv hma hmr hmn h64 hbl;go_enter Tryz.func221,Tryz.ntmps221;go_wp2
 go_step3
 go_wp2
 go_step3
 go_wp2_with fail
 go_loopw [13,14,15] (fun s13 Ua s15 wr=>∃(s q:Nat) (best:Int),q≤n∧s<m∧s13= .int .i64 s∧Ua= .int .i64 best∧s15= .int .i64 q∧Hid (Cw D b later live lazy (n+1 - q) q s best=R)∧∃k,wr=w.drewN k) (fun _ _ s15 _=>n - (intOf s15).toNat)
 case atStart=>exact ⟨0,mO, -1,hat,hm0,rfl,rfl,rfl,HRR,0,rfl⟩
 case round=>
  obtain ⟨s,q,best,hq,hs,rfl,rfl,rfl,HE,k,rfl⟩:=hrel;have c2:w.cell? ⟨mb,2,none⟩=some (.slice pa m ka):=by rw [HR.out.cell?];rfl
  obtain ⟨ab,ao,rfl,hac⟩:=uI HA.out s (by rw [Hm.out];exact hs);have ca:=hac w (au _ _);obtain ⟨lb,lo,rfl,hlc⟩:=uI HL.out q (by omega);have cl:=hlc w (au _ _);obtain ⟨vb,vo,rfl,hvc⟩:=adq HV.out q (by omega);have cv:=hvc w (au _ _)
  have hx:q<n→∃bb bo x,pb=some ⟨bb,bo,none⟩∧b.getD q 0=x∧w.cell? ⟨bb,bo+q,none⟩=some (.int .u8 (x.toNat:Int)):=fun h=>by
   obtain ⟨bb,bo,x,h1,h2,h3⟩:=Uz HB.out q h;exact ⟨bb,bo,x,h1,by rw [dD,h2];rfl,h3 w (au _ _)⟩
  have hsi:(s:Int)<(m:Int):=by omega
  have hql:(q:Int)<(nl:Int):=by omega
  have hqv:(q:Int)<(nv:Int):=by omega
  rw [show n+1 - q=(n - q)+1 by omega,ZB,GU.out] at HE;clear hac hlc hvc;generalize D.ac.getD s false=A at *;generalize later.getD q false=E at *;generalize live.getD q 0=z at *;go_upto_region 4 with (fail);go_cut [32] (fun s32 wx=>s32= .bool (A && E)∧∃j,wx=w.drewN j)
  ·cases A<;>(cases E<;>(go_wp2_with fail;go_meet;exact ⟨rfl,_,rfl⟩))
  clear ca cl c2;obtain ⟨rfl,k,rfl⟩:=hcut;cases Eo:(A && E) with
  | true=>
   rw [Eo] at HE;cases lazy with
   | true=>
    replace HE:Hid ((q:Int)=R):=af (by rw [← HE.out];rfl);clear hx cv;go_wp2_with fail
    try rw [qde]
    go_ret;exact ⟨by rw [HE.out];rfl,_,rfl⟩
   | false=>
    simp only [OT,qdC,wT,ME,qV] at HE;by_cases hqn:q=n
    ·have hd:(q:Int)=(n:Int):=by omega
     replace HE:Hid ((q:Int)=R):=af (by rw [← HE.out,nE hqn];rfl);clear hx cv;go_wp2_with fail
     try rw [qde]
     go_ret;exact ⟨by rw [HE.out];rfl,_,rfl⟩
    ·have abT:q<n:=by omega
     have hd:((q:Int)==(n:Int))=false:=by simp;omega
     rw [jI hqn,Cz] at HE;have hb0:=VD z s (by omega);obtain ⟨bb,bo,x,rfl,hbx,cx⟩:=hx abT;rw [hbx] at HE;cases hbt:mU z s with
     | false=>
      rw [hbt] at hb0 HE;simp only [LM,Tz] at hb0 HE;replace HE:Hid ((q:Int)=R):=af (by rw [← HE.out];rfl);clear hbt cx;go_wp2_with fail
      try rw [qde]
      go_ret;exact ⟨by rw [HE.out];rfl,_,rfl⟩
     | true=>
      rw [hbt] at hb0 HE;simp only [LM,Tz] at hb0 HE;clear hbt;have hqi:(q:Int)<(n:Int):=by omega
      replace HE:Hid (Cw D b later live false (n+1 - (q+1)) (q+1) (D.to s x) (q:Int)=R):=af (by rw [show n+1 - (q+1)=n - q by omega];exact HE.out);have ht:=HD.out.to (s:=s) (by rw [HX.out];exact hs) x;rw [HX.out] at ht;go_wp2_with (go_at_call 254;refine (pTo _ mb s D x (HM.out.drewN _) HD.out (by rw [HX.out];exact hs)).mono ?_;rintro e w' ⟨rfl,j,rfl⟩)
      go_roundw
      case rel=>exact ⟨D.to s x,q+1,(q:Int),by omega,ht,rfl,rfl,by go_num,HE,_,rfl⟩
      case measure=>simp [intOf]<;>omega
  | false=>
   rw [Eo] at HE;simp only [Bool.false_and,ME,qV] at HE;by_cases hqn:q=n
   ·have hd:(q:Int)=(n:Int):=by omega
    replace HE:Hid (best=R):=af (by rw [← HE.out,nE hqn];rfl);clear hx cv;go_wp2_with fail
    try rw [qde]
    go_ret;exact ⟨by rw [HE.out];rfl,_,rfl⟩
   ·have abT:q<n:=by omega
    have hd:((q:Int)==(n:Int))=false:=by simp;omega
    rw [jI hqn,Cz] at HE;have hb0:=VD z s (by omega);obtain ⟨bb,bo,x,rfl,hbx,cx⟩:=hx abT;rw [hbx] at HE;cases hbt:mU z s with
    | false=>
     rw [hbt] at hb0 HE;simp only [LM,Tz] at hb0 HE;replace HE:Hid (best=R):=af (by rw [← HE.out];rfl);clear hbt cx;go_wp2_with fail
     try rw [qde]
     go_ret;exact ⟨by rw [HE.out];rfl,_,rfl⟩
    | true=>
     rw [hbt] at hb0 HE;simp only [LM,Tz] at hb0 HE;clear hbt;have hqi:(q:Int)<(n:Int):=by omega
     replace HE:Hid (Cw D b later live lazy (n+1 - (q+1)) (q+1) (D.to s x) best=R):=af (by rw [show n+1 - (q+1)=n - q by omega];exact HE.out);have ht:=HD.out.to (s:=s) (by rw [HX.out];exact hs) x;rw [HX.out] at ht;go_wp2_with (go_at_call 254;refine (pTo _ mb s D x (HM.out.drewN _) HD.out (by rw [HX.out];exact hs)).mono ?_;rintro e w' ⟨rfl,j,rfl⟩)
     go_roundw
     case rel=>exact ⟨D.to s x,q+1,best,by omega,ht,rfl,rfl,by go_num,HE,_,rfl⟩
     case measure=>simp [intOf]<;>omega
end
section
open Go Go.RowKit Mem
structure Rm (w1:World) (B:Nat) (w:World) (g:Nat) (cs:List Cl) (vr ve:OC) (us:List OC) (rows:List (List Ce)) (ends:List Bool):Prop where
 cls:Row oV w g 65 (cs.flatMap aJ)
 own:Mem.Own oV w B 62 vr.1 us
 each:F2 (fun (u:OC) (r:List Ce)=>aT 3 tL w B 61 u.1 r) us rows
 ends:Mem.Own Value.bool w B 4 ve.1 ends
 ds:∀i j,i<us.length→j<us.length→i≠j→∀k,(us.getD i on).1.ownBlock=some k→(us.getD j on).1.ownBlock≠some k
 low:Below w1.heap.size w1 w
 lo:g<B∧w1.heap.size≤g∧B≤w.heap.size
theorem aal {α β:Type} {R:α→β→Prop}:∀{l:List α} {m:List β},l.length=m.length→(∀i (hi:i<l.length) (hj:i<m.length),R l[i] m[i])→F2 R l m
 | [],[],_,_=> .nil
 | [],_::_,h,_=>by simp at h
 | _::_,[],h,_=>by simp at h
 | a::l,b::m,h,hi=> .cons (hi 0 (by simp) (by simp)) (aal (by simpa using h) fun i h1 h2=>hi (i+1) (by simpa using h1) (by simpa using h2))
section
variable {w1 w w2:World} {B g:Nat} {cs:List Cl} {vr ve:OC} {us:List OC} {rows:List (List Ce)} {ends:List Bool}
theorem Rm.keep (h:Rm w1 B w g cs vr ve us rows ends) (hb:Below w.heap.size w w2):Rm w1 B w2 g cs vr ve us rows ends:=
 ⟨h.cls.below hb h.cls.lt,h.own.below' hb,bE (fun _ _ d=>d.below' hb) h.each,h.ends.below' hb,h.ds,h.low.trans (hb.mono h.low.size),h.lo.1,h.lo.2.1,aL h.lo.2.2 hb.size⟩
theorem Rm.row (h:Rm w1 B w g cs vr ve us rows ends) {i:Nat} {u:OC} (hi:us[i]?=some u):∃r,rows[i]?=some r∧aT 3 tL w B 61 u.1 r:=Wt h.each i u hi
theorem adf {w:World} {vr:OC} {us:List OC} {rows:List (List Ce)} (ho:Rd oV w vr.1 us) (he:F2 (fun (u:OC) (r:List Ce)=>nu 3 tL w u.1 r) us rows):Ms w vr.1 rows:=by
 have hl:=qF he;rcases ho with ⟨p,e,e0⟩ | ⟨b,o,c,e,hc,ha,hb⟩
 ·subst e0;refine .inl ⟨p,e,vR.1 (by rw [← hl];rfl)⟩
 ·refine .inr ⟨b,o,c,by rw [e,hl],by rw [← hl];exact hc,fun i hi=> ?_,hb⟩;obtain ⟨u,hu,hr⟩:=R9 he i rows[i] (bM hi);have hiu:i<us.length:=by omega
  refine ⟨u.1,?_,hr⟩;rw [ha i hiu,hu];rfl
theorem Rm.nz (h:Rm w1 B w g cs vr ve us rows ends) (h3:cs.length=3):nJ w (.agg #[.slice (some ⟨g,0,none⟩) 3 3,vr.1,ve.1]) ⟨cs,rows,ends⟩:=by
 refine ⟨_,_,_,rfl,?_,adf h.own.rd (bE (fun _ _ d=>aT.rd d Jj) h.each),h.ends.rd⟩;have:=nu.row (K:=4) (enc:=aJ) (l:=cs) h.cls rfl (fun _ _=>rfl);rw [h3] at this;exact this
end
theorem adB (w:World) (p:Option Addr) (c:Nat) (l:List UInt8) (hv:Rd aV w (.slice p l.length c) l):Calls Tryz.prog 9 #[.slice p l.length c] w fun e w'=>∃(B g:Nat) (pr pe:Option Addr) (kr ke:Nat) (us:List OC),e= .returned (.agg #[.slice (some ⟨g,0,none⟩) 3 3, .slice pr (bD l) kr, .slice pe (bD l) ke])∧Rm w B w' g [aX,aM,aN] ⟨.slice pr (bD l) kr,rfl⟩ ⟨.slice pe (bD l) ke,rfl⟩ us (o5 l (bD l)) (jV l (bD l))∧us.length=bD l:=by
 refine (adp w p c l hv).mono ?_;rintro e w' ⟨B,g,nb,pr,pe,kr,ke,us,X2,X,rfl,hM,hB,hr,h1,h2,hG⟩;have hwB:w.heap.size<B:=by have:=hM.lo.1;have:=hM.lo.2.1;omega
 refine ⟨B,g,pr,pe,kr,ke,us,rfl,⟨hM.cls.grown hG (fun e=>by injection e with e;omega),wC hM.own hwB hG,aal (by rw [hM.len,jo]) fun i hi hj=> ?_,wC hM.ends hwB hG,?_,hB.grown hG hB.size (fun k e=>by cases e;exact ah _),hM.lo.2.2.1,by omega,aL hM.lo.2.2.2.2 hG.size⟩,hM.len⟩
 ·have hg2:(o5 l (bD l))[i]=jl l i 3:=by simp [o5]
  rw [hg2];exact (hM.each i hi).far hwB hG
 ·intro i j hi hj hij k hk;have e1:us.getD i on=us[i]:=by rw [dD,bM hi];rfl
  have e2:us.getD j on=us[j]:=by rw [dD,bM hj];rfl
  rw [e1] at hk;rw [e2];exact hM.ds i j hi hj hij k hk
end
end Go.Proofs.YtncnfncglacheaaGreatDoor
