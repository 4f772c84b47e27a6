/- Part of a proof. -/
import Derived.Test.YtncnfncglacheaaGreatDoorFEvL
import Derived.Test.YtncnfncglacheaaGreatDoorFKeeps
import Derived.Shelf.Abstract
import Derived.Shelf.RegionOpen
set_option linter.all false
set_option maxRecDepth 100000
set_option maxHeartbeats 64000000
namespace Go.Proofs.YtncnfncglacheaaGreatDoor
namespace Ev
open Go Go.RowKit
end Ev
section
open Go Go.RowKit Go.Shelf Mem
attribute [local go_sem] XO
theorem Yu (al:List UInt8) (n:Nat) (x:Sc.Wd) (h:x∈Sc.upTo al n):x.length<n:=by
 unfold Sc.upTo at h;rw [UJ] at h;obtain ⟨k,hk,hx⟩:=h;rw [Sc.Fh al k x hx];exact Ij.1 hk
theorem acw (W:World) (l:Nat) (o o':Obj) (h:W.heap[l]?=some o) (hc:o.isCells=false):eX (fun _=>False) W (W.putObj l o'):=
 ⟨by simp,fun r q _ hq hqc=>(World.putObj_heap_other (fun e=>by subst e;rw [h] at hq;cases hq;rw [hc] at hqc;cases hqc)).trans hq⟩
theorem YF (D:Nat→Prop) (W:World) (l:Nat) (o o':Obj) (h:W.heap[l]?=some o) (hc:o.isCells=false):eX D W (W.putObj l o'):=
 ⟨by simp,fun r q _ hq hqc=>(World.putObj_heap_other (fun e=>by subst e;rw [h] at hq;cases hq;rw [hc] at hqc;cases hqc)).trans hq⟩
theorem abX (m0:Nat) (al:List UInt8) (most:Nat) (pre:List (Sc.Wd×Value)) (x:Sc.Wd×Value) (W:World) (l:Nat) (o o':Obj) (h:ScG m0 al most pre x W) (hl:W.heap[l]?=some o) (hc:o.isCells=false):ScG m0 al most pre x (W.putObj l o'):=
 ⟨h.1.keep (acw W l o o' hl hc),h.2⟩
theorem vF {A B:World} (h:Below A.heap.size A B):KeepsOthers A B:=KeepsOthers.of_grownBy (bf h none) (fun j o e=>by cases e)
def refused (N:NZ) (ws:List Sc.Wd):Nat:=ws.countP fun x=> !N.acc x
end
section
open Go Go.RowKit Mem
namespace Sc
theorem Zx (al:List UInt8) (n d:Nat) (h:d<(lvl al n).length) (h2:(upTo al n).length+d<(upTo al (n+1)).length):(upTo al (n+1))[(upTo al n).length+d]=(lvl al n)[d]:=by
 have:=kC al n;simp only [this];rw [qct (by omega)];congr 1;omega
theorem EW (al:List UInt8) (n:Nat):(upTo al (n+1)).length=(upTo al n).length+(lvl al n).length:=by rw [kC,fq]
theorem ZO (al:List UInt8) (n:Nat):upTo al (n+1)++bY al (lvl al n)=upTo al (n+2):=by rw [kC al (n+1)];rfl
theorem TT (al:List UInt8) {a b:Nat} (h:a≤b):(upTo al a).length≤(upTo al b).length:=(Ed al h).length_le
end Sc
theorem QC (al:List UInt8) (most n:Nat) (hn:n<most) (hm:most≤8) (hlen:(Sc.upTo al (most+1)).length≤4096):∃(U V:List Sc.Wd) (fr:Nat),U=Sc.upTo al (n+1)∧fr=(Sc.upTo al n).length∧U.length=fr+V.length∧U++Sc.bY al V=Sc.upTo al (n+1+1)∧(U++Sc.bY al V).length≤4096∧(∀d (h:d<V.length) (h2:fr+d<U.length),U[fr+d]=V[d])∧∀d (h:d<V.length),V[d].length≤8:=by
 have h2:=Sc.ZO al n;refine ⟨_,Sc.lvl al n,_,rfl,rfl,Sc.EW al n,h2,?_,fun d h h3=>Sc.Zx al n d h h3,fun d h=> ?_⟩
 ·rw [h2];exact aL (Sc.TT al (by omega)) hlen
 ·rw [Sc.Fh al n _ (pJ h)];omega
theorem Ve (al:List UInt8) (U V:List Sc.Wd) (fr d:Nat) (hl:U.length=fr+V.length) (hlen:(U++Sc.bY al V).length≤4096) (hg:∀d (h:d<V.length) (h2:fr+d<U.length),U[fr+d]=V[d]) (hd:d<V.length):
  ∃(A:List Sc.Wd) (wd:Sc.Wd),A=U++Sc.bY al (V.take d)∧wd=V[d]∧A++al.map (fun b=>wd++[b])=U++Sc.bY al (V.take (d+1))∧A.length+al.length≤4096∧fr+d<A.length∧∀(B:List Sc.Wd) (h:fr+d<(A++B).length),(A++B)[fr+d]=wd:=by
 have h1:fr+d<U.length:=by omega
 refine ⟨_,_,rfl,rfl,?_,?_,?_,fun B h=> ?_⟩
 ·rw [Sc.Bw al V d hd,ze]
 ·have h3:(Sc.bY al (V.take (d+1))).length≤(Sc.bY al V).length:=by
   rw [Sc.vL,Sc.vL];exact O7 _ (by rw [LV];omega)
  rw [Sc.Bw al V d hd,fq,fD] at h3;rw [fq] at hlen ⊢;omega
 ·rw [fq];omega
 ·rw [Jt (by rw [fq];omega),Jt h1,hg d hd h1]
end
section
open Go Go.RowKit Go.Shelf Mem
attribute [local go_sem] XO
def mbs (c:Cl):List UInt8:=(jq c 256).map UInt8.ofNat
theorem IZ {K:Nat} (W:World) (l:Nat) (o':Obj) (hl:K≤l):yQ K W (W.putObj l o'):=
 ⟨by simp,fun r hr=>World.putObj_heap_other (by omega)⟩
theorem Mem.Own.WL {α:Type} {f:α→Value} {w w':World} {base:Nat} {e:TypeId} {v:Value} {l:List α} (h:Mem.Own f w base e v l) {row:Option Nat} (hg:w.grownBy w' row)
  (hr:∀r,row=some r→∃o:Obj,w.heap[r]?=some o∧o.isCells=false):Mem.Own f w' base e v l:=by
 refine ⟨h.1,?_⟩;rcases h.2 with hn | ⟨g,cap,cur,rfl,hbg,hc,rest⟩
 ·exact .inl hn
 ·refine .inr ⟨g,cap,cur,rfl,hbg,(hg.block g (jg.1 hc).1 (fun e=> ?_)).trans hc,rest⟩;obtain ⟨o,ho,hoc⟩:=hr g e.symm;rw [hc] at ho;cases ho;cases hoc
theorem Q8 (w:World) (c:Cl) (cb:Nat) (hT:iw w) (hc:Row oV w cb 65 (aJ c)):
  Calls Tryz.prog 171 #[.slice none 0 0, .func (.func 172) #[] #[.pointer (some ⟨cb,0,none⟩)]] w fun e w'=>∃v,e= .returned v∧Mem.Own aV w' w.heap.size 5 v (mbs c)∧Below w.heap.size w w':=by
 have hseq:=af (fun (W:World) (hb:Below w.heap.size w W)=>QU 4 (by omega) w.heap.size c cb W (hT.below hb hT.lt) (hc.below hb hc.lt) hT.lt hc.lt hb.size);clear hT hc;refine (Ey (n:=5)).1 ?_;refine callsIn_of_wp_marks Tryz.func171 rfl trivial ?_ rfl;simp only [Tryz.ntmps171,AZ,nQ,PS,Nat.reduceAdd,Nat.reduceSub,qcp,qcq,qcL,qcE,J4,T9]
 gi_wp2_with fail
 have hv0:(w.alloc (.cells #[.slice none 0 0] 22)).heap[w.heap.size]?=some (.cells #[.slice none 0 0] 22 (0,0)):=World.alloc_heap_new _ _;have hb0:Below w.heap.size w (w.alloc (.cells #[.slice none 0 0] 22)):=(au _ _).alloc (ah _) _;have hs0:(w.alloc (.cells #[.slice none 0 0] 22)).heap.size=w.heap.size+1:=bR _ _;generalize w.alloc (.cells #[.slice none 0 0] 22)=wl at *
 refine WJ rfl (by omega) (gf:=172) (lb:= #[.pointer (some ⟨cb,0,none⟩)]) rfl trivial (enters_of Tryz.func172 (by kernel_rfl) rfl) (hseq.out _ hb0) KI (fun W l o o' hl h _ _=>IZ W l o' (by omega)) (fun _ _ _ _ _ _ h _ _=>h) (au _ _) (fun _=>rfl)
  (fun pre W=>∃v,W.heap[w.heap.size]?=some (.cells #[v] 22 (0,0))∧Mem.Own aV W (w.heap.size+1) 5 v (pre.map UInt8.ofNat)∧Below w.heap.size w W∧w.heap.size+1≤W.heap.size) (fun _ _ _=>False)
  ?hI (fun _ _ _ _ _ h _ _=>h) ?Pz (fun _ _ _ _ h _=>h) ⟨_,hv0,Mem.Own.nil _ _ _,hb0,by omega⟩
  (fun x=>{tmps:= #[.slice none 0 0, .func (.func 172) #[] #[.pointer (some ⟨cb,0,none⟩)], .pointer (some ⟨w.heap.size,0,none⟩),undef, .slice none 0 0, .int .u8 (x:Int), .func (.func 172) #[] #[.pointer (some ⟨cb,0,none⟩)], .int .u8 (x:Int),undef,undef,undef,undef,undef],defers:=[]})
  ?assign ?body ?done ?stop
 case hI=>
  rintro pre A B row ⟨v,h1,h2,h3,h4⟩ hgr hrow;refine ⟨v,(hgr.block _ (by omega) (fun e=>by have:=(hrow _ e.symm).1;omega)).trans h1,h2.WL hgr (fun r e=>(hrow r e).2),h3.grown hgr h3.size (fun k e=>by have:=(hrow _ e).1;omega),aL h4 hgr.size⟩
 case Pz=>
  rintro pre A B ⟨v,h1,h2,h3,h4⟩ hb;refine ⟨v,(hb.block _ (jg.1 h1).1).trans h1,h2.below' hb,h3.trans (hb.mono h3.size),aL h4 hb.size⟩
 case assign=>
  intro l x W K hK
  gi_wp2
  exact hK
 case body=>
  rintro l pre x W ⟨v,Z5,hO,hB,hs⟩ ⟨hx,hpre⟩;obtain ⟨b,rfl⟩:∃b:UInt8,x=b.toNat:=⟨UInt8.ofNat x,(UInt8.toNat_ofNat_of_lt' hx).symm⟩
  have hpl:(pre.map UInt8.ofNat).length≤256:=by
   have:=hpre.length_le;rw [fq] at this;have:=MZ c 256;rw [fD];omega
  have HM:Hid ((pre++[b.toNat]).map UInt8.ofNat=pre.map UInt8.ofNat++[b]):=af (by simp);generalize pre.map UInt8.ofNat=ps at hpl hO HM;clear hpre hx;have hcv:=FO Z5;have hfv:=Gw Z5;obtain ⟨p,cap,rfl⟩:=hO.slice
  gi_wp2_with (gi_at_builtin;(with_reducible refine rQ xV (.tmp 8) (.tmp 10) ?_ ?_ j4 ?_ hO b _ ?_ _ ?_ ?_ ?_ ?_ (ps++[b]) ?_ ?_);rfl;rfl;rfl;rfl;rfl;omega;omega;exact hs;rfl;intro p2 c2 w3 hO2 hB2 hG2;have hc3:=(hG2.block w.heap.size (by simp;omega) (fun e=>by have:=hO.lt w.heap.size e.symm;omega)).trans ((pM _ _ _ (by omega)).trans Z5);have ahH:=FO hc3;have ahA:=Gw hc3)
  rw [fq,BH] at hO2
  have hown:∀(j:Nat) (o:Obj),(Value.slice p ps.length cap).ownBlock=some j→(W.alloc (Obj.cells #[Value.int IntKind.u8 (b.toNat:Int)] 5)).heap[j]?=some o→o.isCells=true:=by
   intro j o ej hj;rcases hO.2 with ⟨hq,_⟩ | ⟨g,cap',cur,hv,hg,hgc,_⟩
   ·rw [hq] at ej;cases ej
   ·rw [hv] at ej;cases ej;rw [pM _ _ _ (jg.1 hgc).1,hgc] at hj;cases hj;rfl
  have Tv:Below w.heap.size W (w3.setCell ⟨w.heap.size,0,none⟩ (Value.slice p2 (ps.length+1) c2)):=Below.setCell (hB2.mono (B':=w.heap.size) (by omega)) (p:=⟨w.heap.size,0,none⟩) (ah _) _;refine ⟨((KeepsOthers.alloc W _).trans (KeepsOthers.of_grownBy hG2 hown)).trans (KeepsOthers.setCell _ _ _),⟨Tv.size,fun r hr=>Tv.block r (by omega)⟩,_,abB hc3 _,?_,hB.trans Tv,aL hs Tv.size⟩;rw [HM.out];exact OQ hO2 (EK _) _
 case done=>
  rintro D xs W hD rfl ⟨v,hc,hO,hB,hs⟩ Ib;have hcv:=FO hc
  gi_wp2
  refine ⟨by simp, .inl ⟨_,_,rfl,run_takeDeferred Ib,?_⟩⟩;refine ⟨v,by simp [results,Tryz.results171,go_sem],v,rfl,?_,?_⟩
  ·exact (hO.WL (grownBy_putObj' W D (.deferred none)) (fun r e=>by cases e;exact ⟨_,Ib,rfl⟩)).mono (L9 _)
  ·exact hB.grown (grownBy_putObj' W D (.deferred none)) hB.size (fun k e=>by cases e;omega)
 case stop=>
  intro D c' pre W _ _ h _;exact h.elim
theorem XL (w:World) (c:Cl) (cb:Nat) (hT:iw w) (hc:Row oV w cb 65 (aJ c)):
  Calls Tryz.prog 130 #[.func (.func 172) #[] #[.pointer (some ⟨cb,0,none⟩)]] w fun e w'=>∃v,e= .returned v∧Mem.Own aV w' w.heap.size 5 v (mbs c)∧Below w.heap.size w w':=by
 have H:=af (Q8 w c cb hT hc);clear hT hc;go_enter Tryz.func130,Tryz.ntmps130;go_wp2_with fail;refine H.out.mono ?_;rintro e w1 ⟨v,rfl,hO,hB⟩;go_wp2;go_ret;exact ⟨v,rfl,hO,hB⟩
theorem members (w:World) (c:Cl):Calls Tryz.prog 131 #[.agg (ax c)] w fun e w'=>e= .returned (.func (.func 172) #[] #[.pointer (some ⟨w.heap.size,0,none⟩)])∧(w.alloc (.cells (ax c) 65))=w':=by
 go_enter Tryz.func131,Tryz.ntmps131;go_wp2;go_ret;exact ⟨rfl,rfl⟩
theorem acH (w:World) (c:Cl) (hT:iw w):Calls Tryz.prog 97 #[.agg (ax c)] w fun e w'=>∃v,e= .returned v∧Mem.Own aV w' w.heap.size 5 v (mbs c)∧Below w.heap.size w w':=by
 have hrow:Row oV (w.alloc (.cells (ax c) 65)) w.heap.size 65 (aJ c):=Row.new _ _ rfl;have hB:Below w.heap.size w (w.alloc (.cells (ax c) 65)):=(au _ _).alloc (ah _) _;go_enter Tryz.func97,Tryz.ntmps97;go_upto_region 1 with (fail);generalize (w.alloc (.cells (ax c) 65))=W at hrow hB ⊢;go_wp2_with ((with_reducible refine zL hrow.at ay rfl (C:=ax c) ?_));refine (members W c).mono ?_;rintro e W2 ⟨rfl,hW2⟩;have hB2:Below w.heap.size w W2:=by rw [← hW2];exact ai hB (ah _) _
 have hr2:Row oV W2 W.heap.size 65 (aJ c):=by rw [← hW2];exact Row.new _ _ rfl
 clear hW2 hB hrow;generalize W.heap.size=wb at hr2 ⊢;clear W;go_wp2_with fail;refine (XL W2 c wb (hT.below hB2 hT.lt) hr2).mono ?_;rintro e W3 ⟨v,rfl,hO,hB3⟩;go_wp2;go_ret;exact ⟨v,rfl,hO.mono hB2.size,hB2.trans (hB3.mono hB2.size)⟩
def Cl.least (c:Cl):Int:=match jq c 256 with | []=> -1 | x::_=>(x:Int)
theorem Cf (w:World) (c:Cl) (hT:iw w):Calls Tryz.prog 178 #[.agg (ax c)] w fun e w'=>e= .returned (.int .i64 c.least)∧Below w.heap.size w w':=by
 refine (Ey (n:=5)).1 ?_;refine callsIn_of_wp_marks Tryz.func178 rfl trivial ?_ rfl;simp only [Tryz.ntmps178,AZ,nQ,PS,Nat.reduceAdd,Nat.reduceSub,qcp,qcq,qcL,qcE,J4,T9]
 gi_wp2_with fail
 refine ⟨trivial,?_⟩;refine (Ey.2 (members _ c)).mono ?_;rintro e W2 ⟨rfl,hW2⟩;have hs2:W2.heap.size=w.heap.size+3:=by rw [← hW2];simp
 have hB2:Below w.heap.size w W2:=by rw [← hW2];exact ai (ai (ai (au _ _) (ah _) _) (ah _) _) (ah _) _
 have hr2:Row oV W2 (w.heap.size+2) 65 (aJ c):=by
  rw [← hW2];have h:=World.alloc_heap_new ((w.alloc (.cells (ax c) 65)).alloc (.cells #[.int .i64 0] 3)) (.cells (ax c) 65);simp only [bR] at h;exact h
 have hv2:Row oV W2 (w.heap.size+1) 3 [oi 0]:=by
  rw [← hW2];refine (pM _ _ _ (by simp)).trans ?_;have h:=World.alloc_heap_new (w.alloc (.cells (ax c) 65)) (.cells #[.int .i64 0] 3);simp only [bR] at h;exact h
 have hwb:((w.alloc (.cells (ax c) 65)).alloc (.cells #[.int .i64 0] 3)).heap.size=w.heap.size+2:=by simp
 rw [hwb];clear hW2 hwb;have hseq:=QU 4 (by omega) W2.heap.size c (w.heap.size+2) W2 (hT.below hB2 hT.lt) hr2 (by have:=hT.lt;omega) (by omega) (ah _);clear hT hr2;generalize hn0:w.heap.size=n0 at *
 gi_wp2_with fail
 refine WJ rfl (by omega) (gf:=172) (lb:= #[.pointer (some ⟨n0+2,0,none⟩)]) rfl trivial (enters_of Tryz.func172 (by kernel_rfl) rfl) hseq KI (fun W l o o' hl h _ _=>IZ W l o' (by omega)) (fun _ _ _ _ _ _ h _ _=>h) (au _ _) (fun _=>rfl)
  (fun pre W=>pre=[]∧Row oV W (n0+1) 3 [oi 0]∧Below n0 w W∧n0+3≤W.heap.size) (fun cc pre W=>cc= .ret∧∃x:Nat,pre=[x]∧Row oV W (n0+1) 3 [oi x]∧Below n0 w W∧n0+3≤W.heap.size)
  ?hI ?hIx ?Pz ?JO ⟨rfl,hv2,hB2,by omega⟩
  (fun x=>{tmps:= #[.agg (ax c), .pointer (some ⟨n0,0,none⟩), .pointer (some ⟨n0+1,0,none⟩), .int .u8 (x:Int), .agg (ax c), .func (.func 172) #[] #[.pointer (some ⟨n0+2,0,none⟩)], .int .u8 (x:Int),undef,undef],defers:=[]})
  ?assign ?body ?done ?stop
 case hI=>
  rintro pre A B row ⟨h0,h1,h2,h3⟩ hgr hrow;have hne:∀b,b<n0+3→some b≠row:=fun b hb e=>by have:=(hrow _ e.symm).1;omega
  exact ⟨h0,h1.grown hgr (hne _ (by omega)),h2.grown hgr (by omega) (fun k e=>by have:=(hrow _ e).1;omega),aL h3 hgr.size⟩
 case hIx=>
  rintro cc pre A B row ⟨h0,x,h0',h1,h2,h3⟩ hgr hrow;have hne:∀b,b<n0+3→some b≠row:=fun b hb e=>by have:=(hrow _ e.symm).1;omega
  exact ⟨h0,x,h0',h1.grown hgr (hne _ (by omega)),h2.grown hgr (by omega) (fun k e=>by have:=(hrow _ e).1;omega),aL h3 hgr.size⟩
 case Pz=>
  rintro pre A B ⟨h0,h1,h2,h3⟩ hb;exact ⟨h0,h1.below hb h1.lt,h2.trans (hb.mono (by omega)),aL h3 hb.size⟩
 case JO=>
  rintro cc pre A B ⟨h0,x,h0',h1,h2,h3⟩ hb;exact ⟨h0,x,h0',h1.below hb h1.lt,h2.trans (hb.mono (by omega)),aL h3 hb.size⟩
 case assign=>
  intro l x W K hK
  gi_wp2
  exact hK
 case body=>
  rintro l pre x W ⟨rfl,h1,h2,h3⟩ ⟨hx,_⟩;have cr:W.cell? ⟨n0+1,0,none⟩=some (.int .i64 0):=by rw [h1.cell?];rfl
  have fr:=h1.frozen 0
  gi_wp2
  exact ⟨KeepsOthers.setCell _ _ _,rfl,x,rfl,h1.set 0 (oi x),aQ h2 0 (by omega) _,by simpa using h3⟩
 case done=>
  rintro D xs W hD hxs ⟨rfl,h1,h2,h3⟩ Ib;have cr:W.cell? ⟨n0+1,0,none⟩=some (.int .i64 0):=by rw [h1.cell?];rfl
  have fr:=h1.frozen 0;have hl:c.least= -1:=by unfold Cl.least;rw [← hxs]
  gi_wp2
  have h1':=h1.set 0 (oi (-1));have h2':=aQ h2 (b:=n0+1) 0 (by omega) (.int .i64 (-1));have ahb:(W.setCell ⟨n0+1,0,none⟩ (.int .i64 (-1))).heap[D]?=some (.deferred (some [])):=(G9 _ _ _ _ (by show D≠n0+1;omega)).trans Ib;replace h1':Row oV (W.setCell ⟨n0+1,0,none⟩ (.int .i64 (-1))) (n0+1) 3 [oi (-1)]:=h1';generalize W.setCell ⟨n0+1,0,none⟩ (.int .i64 (-1))=W5 at *;have hcr:(W5.putObj D (.deferred none)).cell? ⟨n0+1,0,none⟩=some (.int .i64 (-1)):=(nU (a:=⟨n0+1,0,none⟩) (World.putObj_heap_other (by show n0+1≠D;omega))).trans (by rw [h1'.cell?];rfl);refine ⟨by simp, .inl ⟨_,_,rfl,run_takeDeferred ahb,?_⟩⟩;refine ⟨_,by simp [results,Tryz.results178,go_sem,hcr];rfl,by rw [hl],?_⟩;rw [hn0];exact h2'.grown (grownBy_putObj' W5 D (.deferred none)) (by have:=h2'.size;omega) (fun k e=>by cases e;omega)
 case stop=>
  rintro D cc pre W hD ⟨hp,_⟩ ⟨rfl,x,rfl,h1,h2,h3⟩ Ib
  have hl:c.least=x:=by
   unfold Cl.least;obtain ⟨t,ht⟩:=hp;rw [← ht];rfl
  gi_wp2
  have hcr:(W.putObj D (.deferred none)).cell? ⟨n0+1,0,none⟩=some (.int .i64 x):=(nU (a:=⟨n0+1,0,none⟩) (World.putObj_heap_other (by show n0+1≠D;omega))).trans (by rw [h1.cell?];rfl);refine ⟨by simp, .inl ⟨_,_,rfl,run_takeDeferred Ib,?_⟩⟩;refine ⟨_,by simp [results,Tryz.results178,go_sem,hcr];rfl,by rw [hl],?_⟩;rw [hn0];exact h2.grown (grownBy_putObj' W D (.deferred none)) (by have:=h2.size;omega) (fun k e=>by cases e;omega)
end
end Go.Proofs.YtncnfncglacheaaGreatDoor
