/- Part of a proof. -/
import Derived.Test.YtncnfncglacheaaGreatDoorMRefine
import Derived.Test.YtncnfncglacheaaGreatDoorMMeets
set_option linter.all false
set_option maxRecDepth 100000
set_option maxHeartbeats 64000000
namespace Go.Proofs.YtncnfncglacheaaGreatDoor
section
open Go Go.RowKit Mem
theorem bN:bR Tryz.prog 79 3:=⟨fun _=>by kernel_rfl,fun _=>by kernel_rfl⟩
theorem iL {α β:Type} {f:α→Value} {g:β→Value} {w:World} {b1 b2:Nat} {e1 e2:TypeId} {v1 v2:Value} {l1:List α} {l2:List β} (h1:Mem.Own f w b1 e1 v1 l1) (h2:Mem.Own g w b2 e2 v2 l2) (hne:e1≠e2):∀k,v1.ownBlock=some k→v2.ownBlock≠some k:=by
 intro k hk hk2;rcases h1.2 with ⟨rfl,_⟩ | ⟨g1,c1,MG,rfl,_,hc1,_⟩
 ·cases hk
 ·rcases h2.2 with ⟨rfl,_⟩ | ⟨g2,c2,adV,rfl,_,hc2,_⟩
  ·cases hk2
  ·cases hk;cases hk2;rw [hc1] at hc2;injection hc2 with hc2
   injection hc2 with _ hc2
   exact hne hc2
def ZH (X:World) (B N:Nat) (vo:Value) (u:OC) (r:List Nat):Prop:=∃g,u.1= .slice (some ⟨g,0,none⟩) r.length r.length∧Row nV X g 3 r∧B+2≤g∧g<N∧vo.ownBlock≠some g∧r.length≤256
structure jI (Wc X:World) (B N:Nat) (vc:OC) (st:CS) (nx:List (List Nat)) (ac:List Bool) (po:Option Addr) (co:Nat) (pn:Option Addr) (cn:Nat) (pa:Option Addr) (ca:Nat) (us:List OC):Prop where
 fB:Below B Wc X
 Dv:Row oV X B 79 [vc,⟨.slice pn us.length cn,rfl⟩,⟨.slice pa ac.length ca,rfl⟩]
 place:Row zV X (B+1) 3 st.place
 ord:Mem.Own nV X (B+2) 3 (.slice po st.ord.length co) st.ord
 next:Mem.Own oV X (B+2) 92 (.slice pn us.length cn) us
 rows:F2 (ZH X B N (.slice po st.ord.length co)) us nx
 acc:Mem.Own Value.bool X (B+2) 4 (.slice pa ac.length ca) ac
 sz:B+2≤X.heap.size
 nN:N≤X.heap.size
section
variable {Wc X X':World} {B N:Nat} {vc:OC} {st:CS} {nx:List (List Nat)} {ac:List Bool} {po:Option Addr} {co:Nat} {pn:Option Addr} {cn:Nat} {pa:Option Addr} {ca:Nat} {us:List OC}
theorem jI.grown (h:jI Wc X B N vc st nx ac po co pn cn pa ca us) {row:Option Nat} (hg:X.grownBy X' row) (hr:∀g,row=some g→N≤g∧B+2≤g∧(Value.slice po st.ord.length co).ownBlock≠some g∧(Value.slice pn us.length cn).ownBlock≠some g∧(Value.slice pa ac.length ca).ownBlock≠some g):jI Wc X' B N vc st nx ac po co pn cn pa ca us:=by
 have hz:=h.sz;refine ⟨h.fB.grown hg (by omega) (fun k e=>by have:=(hr k e).2.1;omega),h.Dv.grown hg (fun e=>by have:=(hr _ e.symm).2.1;omega),h.place.grown hg (fun e=>by have:=(hr _ e.symm).2.1;omega),h.ord.kept hg (fun g hg' e=>(hr g e).2.2.1 hg'),h.next.kept hg (fun g hg' e=>(hr g e).2.2.2.1 hg'),?_,h.acc.kept hg (fun g hg' e=>(hr g e).2.2.2.2 hg'),aJ h.sz hg.size,aJ h.nN hg.size⟩;refine bg ?_ h.rows;rintro u r ⟨g,e1,e2,e3,e4,e5,e6⟩;exact ⟨g,e1,e2.grown hg (fun e=>by have:=(hr g e.symm).1;omega),e3,e4,e5,e6⟩
theorem jI.alloc (h:jI Wc X B N vc st nx ac po co pn cn pa ca us) (o:Obj):jI Wc (X.alloc o) B N vc st nx ac po co pn cn pa ca us:=h.grown (Us X o none) (fun _ e=>by cases e)
theorem jI.mono (h:jI Wc X B N vc st nx ac po co pn cn pa ca us) {M:Nat} (hM:N≤M) (hX:M≤X.heap.size):jI Wc X B M vc st nx ac po co pn cn pa ca us:=
 ⟨h.fB,h.Dv,h.place,h.ord,h.next,bg (fun _ _ ⟨g,e1,e2,e3,e4,e5,e6⟩=>⟨g,e1,e2,e3,by omega,e5,e6⟩) h.rows,h.acc,h.sz,hX⟩
theorem jI.Fa (h:jI Wc X B N vc st nx ac po co pn cn pa ca us) (t:Nat) (q:Int):jI Wc (X.setCell ⟨B+1,t,none⟩ (zV q)) B N vc {st with place:=st.place.set t q} nx ac po co pn cn pa ca us:=by
 have hg:=aB X (B+1) t (zV q);have hz:=h.sz;have hl:=h.place.lt;refine ⟨h.fB.grown hg (by omega) (fun k e=>by injection e with e;omega),h.Dv.grown hg (by simp),h.place.set t q,h.ord.kept hg (fun g hg' e=>by have:=(h.ord.lt g hg').1;injection e with e;omega),h.next.kept hg (fun g hg' e=>by have:=(h.next.lt g hg').1;injection e with e;omega),?_,h.acc.kept hg (fun g hg' e=>by have:=(h.acc.lt g hg').1;injection e with e;omega),aJ h.sz hg.size,aJ h.nN hg.size⟩;refine bg ?_ h.rows;rintro u r ⟨g,e1,e2,e3,e4,e5,e6⟩;exact ⟨g,e1,e2.grown hg (fun e=>by injection e with e;omega),e3,e4,e5,e6⟩
theorem jI.order (h:jI Wc X B N vc st nx ac po co pn cn pa ca us) {o:Obj} {t:Nat} {p:Option Addr} {c:Nat} (hO:Mem.Own nV X' (B+2) 3 (.slice p (st.ord++[t]).length c) (st.ord++[t])) (hG:(X.alloc o).grownBy X' (Value.slice po st.ord.length co).ownBlock) (hw:∀g,(Value.slice p (st.ord++[t]).length c).ownBlock=some g→(Value.slice po st.ord.length co).ownBlock=some g∨X.heap.size+1≤g):
  jI Wc X' B N vc {st with ord:=st.ord++[t]} nx ac p c pn cn pa ca us:=by
 have h':=h.alloc o;have hb:∀g,(Value.slice po st.ord.length co).ownBlock=some g→B+2≤g:=fun g e=>(h.ord.lt g e).1;have hz:=h'.sz;have hty:∀g,(Value.slice pn us.length cn).ownBlock=some g→(Value.slice po st.ord.length co).ownBlock≠some g:=fun g e e'=>iL h.next h.ord (by decide) g e e';have af6:∀g,(Value.slice pa ac.length ca).ownBlock=some g→(Value.slice po st.ord.length co).ownBlock≠some g:=fun g e e'=>iL h.acc h.ord (by decide) g e e';refine ⟨h'.fB.grown hG (by omega) (fun k e=>by have:=hb k e;omega),h'.Dv.grown hG (fun e=>by have:=hb _ e.symm;omega),h'.place.grown hG (fun e=>by have:=hb _ e.symm;omega),hO,h'.next.kept hG hty,?_,h'.acc.kept hG af6,aJ h'.sz hG.size,aJ h'.nN hG.size⟩;have hN:=h.nN;refine bg ?_ h'.rows;rintro u r ⟨g,e1,e2,e3,e4,e5,e6⟩;refine ⟨g,e1,e2.grown hG (fun e=>e5 e.symm),e3,e4,fun e=> ?_,e6⟩;rcases hw g e with h1 | h1
 ·exact e5 h1
 ·omega
end
theorem Bz {α β:Type} {R:α→β→Prop}:∀{l:List α} {m:List β} {a:α} {b:β},F2 R l m→R a b→F2 R (l++[a]) (m++[b])
 | _,_,_,_, .nil,h=> .cons h .nil
 | _,_,_,_, .cons h t,h'=> .cons h (Bz t h')
theorem lV {α β:Type} {R:α→β→Prop}:∀{l:List α} {m:List β},F2 R l m→l.length=m.length
 | _,_, .nil=>rfl
 | _,_, .cons _ t=>congrArg Nat.succ (lV t)
theorem G9 {α β:Type} {R:α→β→Prop}:∀{l:List α} {m:List β},F2 R l m→∀(k:Nat) (h1:k<l.length) (h2:k<m.length),R l[k] m[k]
 | _,_, .cons h _,0,_,_=>h
 | _,_, .cons _ t,k+1,h1,h2=>G9 t k (Nat.lt_of_succ_lt_succ h1) (Nat.lt_of_succ_lt_succ h2)
theorem S9:lD Tryz.prog 25 92 24:=lD.mk' (z:= .slice none 0 0) Tryz.underlying25 (by kernel_rfl) rfl
section
variable {Wc X X':World} {B N:Nat} {vc:OC} {st:CS} {nx:List (List Nat)} {ac:List Bool} {po:Option Addr} {co:Nat} {pn:Option Addr} {cn:Nat} {pa:Option Addr} {ca:Nat} {us:List OC}
theorem jI.row (h:jI Wc X B N vc st nx ac po co pn cn pa ca us) (g i:Nat) (v:Value) (hg:N≤g) (hB:B+2≤g) (ho:(Value.slice po st.ord.length co).ownBlock≠some g) (hn:(Value.slice pn us.length cn).ownBlock≠some g) (ha:(Value.slice pa ac.length ca).ownBlock≠some g):jI Wc (X.setCell ⟨g,i,none⟩ v) B N vc st nx ac po co pn cn pa ca us:=
 h.grown (aB X g i v) (fun k e=>by injection e with e;subst e;exact ⟨hg,hB,ho,hn,ha⟩)
theorem jI.cast (h:jI Wc X B N vc st nx ac po co pn cn pa ca us) {st':CS} (h1:st.ord=st'.ord) (h2:st.place=st'.place):jI Wc X B N vc st' nx ac po co pn cn pa ca us:=by
 obtain ⟨o,pl,r⟩:=st;obtain ⟨o',pl',r'⟩:=st';simp only at h1 h2;subst h1 h2;exact ⟨h.fB,h.Dv,h.place,h.ord,h.next,h.rows,h.acc,h.sz,h.nN⟩
theorem zh {l:List Nat} {j m x:Nat} (hl:l.length=j) (hj:j<m):(l++List.replicate (m - j) 0).set j x=(l++[x])++List.replicate (m - (j+1)) 0:=by
 subst hl;rw [show m - l.length=(m - (l.length+1))+1 by omega,qcD,GA _ _ (af _),D7,xY,zD];rfl
theorem jI.BA (h:jI Wc X B N vc st nx ac po co pn cn pa ca us) {g:Nat} {r:List Nat} (hr:Row nV X g 3 r) (hgB:B+2≤g) (hog:(Value.slice po st.ord.length co).ownBlock≠some g) (hr2:r.length≤256) {o:Obj} {p:Option Addr} {c:Nat} {u:OC} (hu:u.1= .slice (some ⟨g,0,none⟩) r.length r.length)
  (hO:Mem.Own oV X' (B+2) 92 (.slice p (us++[u]).length c) (us++[u])) (hG:(X.alloc o).grownBy X' (Value.slice pn us.length cn).ownBlock) {M:Nat} (hM:N≤M) (hgM:g<M) (ZU:M≤X'.heap.size):
  jI Wc (X'.setCell ⟨B,1,none⟩ (.slice p (us++[u]).length c)) B M vc st (nx++[r]) ac po co p c pa ca (us++[u]):=by
 have h':=h.alloc o;have hb:∀k,(Value.slice pn us.length cn).ownBlock=some k→B+2≤k:=fun k e=>(h.next.lt k e).1;have hz:=h'.sz
 have hrow:∀k l,Row nV X k 3 l→(Value.slice pn us.length cn).ownBlock≠some k:=by
  intro k l hk e;rcases h.next.2 with ⟨e1,_⟩ | ⟨g1,c1,MG,e1,_,hc1,_⟩
  ·rw [e1] at e;cases e
  ·rw [e1] at e;cases e;unfold Row at hk;rw [hk] at hc1;injection hc1 with hc1
   injection hc1 with _ hc1
   exact absurd hc1 (by decide)
 have hgs:=aB X' B 1 (.slice p (us++[u]).length c);have d1:=(h'.Dv.grown hG (fun e=>by have:=hb _ e.symm;omega)).set 1 ⟨.slice p (us++[u]).length c,rfl⟩;have hbe:Below B Wc X':=h'.fB.grown hG (by omega) (fun k e=>by have:=hb k e;omega);have JC:B+2≤X'.heap.size:=aJ h'.sz hG.size;refine ⟨hbe.grown hgs (by omega) (fun k e=>by injection e with e;omega),d1,(h'.place.grown hG (fun e=>by have:=hb _ e.symm;omega)).grown hgs (fun e=>by injection e with e;omega),(h'.ord.kept hG (fun k hk e=>iL h.next h.ord (by decide) k e hk)).kept hgs (fun k hk e=>by have:=(h.ord.lt k hk).1;injection e with e;omega),hO.kept hgs (fun k hk e=>by have:=(hO.lt k hk).1;injection e with e;omega),?_,(h'.acc.kept hG (fun k hk e=>iL h.next h.acc (by decide) k e hk)).kept hgs (fun k hk e=>by have:=(h.acc.lt k hk).1;injection e with e;omega),aJ JC hgs.size,aJ ZU hgs.size⟩
 have hone:ZH (X'.setCell ⟨B,1,none⟩ (.slice p (us++[u]).length c)) B M (.slice po st.ord.length co) u r:=
  ⟨g,hu,((hr.alloc o).grown hG (fun e=>hrow g r hr e.symm)).grown hgs (fun e=>by injection e with e;omega),hgB,hgM,hog,hr2⟩
 have hall:F2 (ZH (X'.setCell ⟨B,1,none⟩ (.slice p (us++[u]).length c)) B M (.slice po st.ord.length co)) us nx:=by
  refine bg ?_ h.rows;rintro u' r' ⟨k,e1,e2,e3,e4,e5,e6⟩;exact ⟨k,e1,((e2.alloc o).grown hG (fun e=>hrow k r' e2 e.symm)).grown hgs (fun e=>by injection e with e;omega),e3,by omega,e5,e6⟩
 exact Bz hall hone
theorem jI.Cn (h:jI Wc X B N vc st nx ac po co pn cn pa ca us) {o:Obj} {b:Bool} {p:Option Addr} {c:Nat}
  (hO:Mem.Own Value.bool X' (B+2) 4 (.slice p (ac++[b]).length c) (ac++[b])) (hG:(X.alloc o).grownBy X' (Value.slice pa ac.length ca).ownBlock):
  jI Wc (X'.setCell ⟨B,2,none⟩ (.slice p (ac++[b]).length c)) B N vc st nx (ac++[b]) po co pn cn p c us:=by
 have h':=h.alloc o;have hb:∀k,(Value.slice pa ac.length ca).ownBlock=some k→B+2≤k:=fun k e=>(h.acc.lt k e).1;have hz:=h'.sz
 have hrow:∀k l,Row nV X k 3 l→(Value.slice pa ac.length ca).ownBlock≠some k:=by
  intro k l hk e;rcases h.acc.2 with ⟨e1,_⟩ | ⟨g1,c1,MG,e1,_,hc1,_⟩
  ·rw [e1] at e;cases e
  ·rw [e1] at e;cases e;unfold Row at hk;rw [hk] at hc1;injection hc1 with hc1
   injection hc1 with _ hc1
   exact absurd hc1 (by decide)
 have hgs:=aB X' B 2 (.slice p (ac++[b]).length c);have d1:=(h'.Dv.grown hG (fun e=>by have:=hb _ e.symm;omega)).set 2 ⟨.slice p (ac++[b]).length c,rfl⟩;have hbe:Below B Wc X':=h'.fB.grown hG (by omega) (fun k e=>by have:=hb k e;omega);have JC:B+2≤X'.heap.size:=aJ h'.sz hG.size;refine ⟨hbe.grown hgs (by omega) (fun k e=>by injection e with e;omega),d1,(h'.place.grown hG (fun e=>by have:=hb _ e.symm;omega)).grown hgs (fun e=>by injection e with e;omega),(h'.ord.kept hG (fun k hk e=>iL h.acc h.ord (by decide) k e hk)).kept hgs (fun k hk e=>by have:=(h.ord.lt k hk).1;injection e with e;omega),(h'.next.kept hG (fun k hk e=>iL h.acc h.next (by decide) k e hk)).kept hgs (fun k hk e=>by have:=(h.next.lt k hk).1;injection e with e;omega),?_,hO.kept hgs (fun k hk e=>by have:=(hO.lt k hk).1;injection e with e;omega),aJ JC hgs.size,aJ (aJ h'.nN hG.size) hgs.size⟩;refine bg ?_ h.rows;rintro u' r' ⟨k,e1,e2,e3,e4,e5,e6⟩;exact ⟨k,e1,((e2.alloc o).grown hG (fun e=>hrow k r' e2 e.symm)).grown hgs (fun e=>by injection e with e;omega),e3,e4,e5,e6⟩
end
structure dL (w w':World):Prop where
 size:w.heap.size≤w'.heap.size
 blk:∀g,g<w.heap.size→(∀C k,w.heap[g]?≠some (.cells C 166 k))→w'.heap[g]?=w.heap[g]?
theorem dL.refl (w:World):dL w w:=⟨af _,fun _ _ _=>rfl⟩
theorem dL.trans {a b c:World} (h:dL a b) (h2:dL b c):dL a c:=
 ⟨aJ h.size h2.size,fun g hg hn=>by
  have e:=h.blk g hg hn
  rw [← e]
  exact h2.blk g (bJ hg h.size) (by rw [e];exact hn)⟩
theorem dL.of_below {w w':World} (h:Below w.heap.size w w'):dL w w':=⟨h.size,fun g hg _=>h.block g hg⟩
theorem dL.D9 {w w':World} {b:Nat} {L:List OC} (hr:Row oV w b 166 L) (h:w.grownBy w' (some b)):dL w w':=
 ⟨h.size,fun g hg hn=>h.block g hg (fun e=>by injection e with e;subst e;exact hn _ _ hr)⟩
def zy (w:World) (v:Value) (D:DF):Prop:=∀X,dL w X→dm X v D
theorem zy.keep {w w':World} {v:Value} {D:DF} (h:zy w v D) (hk:dL w w'):zy w' v D:=fun X hX=>h X (hk.trans hX)
theorem Mem.Own.wC {α:Type} {f:α→Value} {w X:World} {base:Nat} {e:TypeId} {v:Value} {l:List α} (h:Mem.Own f w base e v l) (hX:dL w X) (hne:e≠166):Mem.Own f X base e v l:=by
 refine ⟨h.1,?_⟩;rcases h.2 with hn | ⟨g,cap,cur,rfl,hbg,hc,rest⟩
 ·exact .inl hn
 ·exact .inr ⟨g,cap,cur,rfl,hbg,(hX.blk g (jB.1 hc).1 (fun C k e=>by rw [hc] at e;injection e with e;injection e with _ e;exact hne e)).trans hc,rest⟩
theorem aP.wC {α:Type} {K:Nat} {enc:α→List OC} {w X:World} {base:Nat} {e:TypeId} {v:Value} {l:List α} (h:aP K enc w base e v l) (hX:dL w X) (hne:e≠166):aP K enc X base e v l:=by
 refine ⟨h.1,?_⟩;rcases h.2 with hn | ⟨g,cap,cur,rfl,hbg,hc,rest⟩
 ·exact .inl hn
 ·exact .inr ⟨g,cap,cur,rfl,hbg,(hX.blk g (jB.1 hc).1 (fun C k e=>by rw [hc] at e;injection e with e;injection e with _ e;exact hne e)).trans hc,rest⟩
theorem Mem.Row.wC {α:Type} {f:α→Value} {w X:World} {b:Nat} {e:TypeId} {l:List α} (h:Row f w b e l) (hX:dL w X) (hne:e≠166):Row f X b e l:=by
 unfold Row at *;exact (hX.blk b (jB.1 h).1 (fun C k e=>by rw [h] at e;injection e with e;injection e with _ e;exact hne e)).trans h
end
section
open Go Go.RowKit Mem
theorem IQ (w:World) (C:Array Value) (T:TB) (hC:kz w C T) (hT:T.Ok):
  Calls Tryz.prog 177 #[.agg C] w fun e w'=>∃v,e= .returned v∧zy w' v T.canon∧Below w.heap.size w w':=by
 have HC:=Lib.hid hC;have HT:=Lib.hid hT;obtain ⟨⟨vn,jC⟩,⟨va,hva⟩,kQ,h1,h2,h3⟩:=hC;obtain ⟨pnn,knn,rfl⟩:=h1.slice;obtain ⟨paa,kaa,rfl⟩:=h2.slice;have HN:=Lib.hid h1;have HA:=Lib.hid h2;obtain ⟨nn,SF⟩:∃n,Hid (T.nx.length=n):=⟨_,Lib.hid rfl⟩
 have wK:T.ac.length=nn:=by rw [← SF.out];exact hT.ac
 rw [wK] at HA kQ;rw [SF.out] at HN kQ;have Han:=Lib.hid wK;clear wK;obtain ⟨L,HL⟩:∃L,Hid (bf T ⟨.slice pnn nn knn,jC⟩ ⟨.slice paa nn kaa,hva⟩=L):=⟨_,Lib.hid rfl⟩
 have Rn:L.length=259:=by rw [← HL.out];exact aR _ _ h3
 have xC:bR Tryz.prog 166 L.length:=by rw [Rn];exact iR
 rw [HL.out] at kQ;clear h1 h2 hT Rn;have hT0:Row oV (w.alloc (.cells C 166)) w.heap.size 166 L:=Row.new _ _ (by rw [kQ]);have HCe:=Lib.hid kQ;clear kQ;go_enter Tryz.func177,Tryz.ntmps177;go_upto_region 1 with (fail);have hB0:Below w.heap.size w ((w.alloc (.cells C 166)).alloc (.cells #[.slice none 0 0, .slice none 0 0, .slice none 0 0] 79)):=((ak _ _).alloc (af _) _).alloc (by simp) _;have hT1:=hT0.alloc (.cells #[.slice none 0 0, .slice none 0 0, .slice none 0 0] 79)
 have iw:Row oV ((w.alloc (.cells C 166)).alloc (.cells #[.slice none 0 0, .slice none 0 0, .slice none 0 0] 79)) (w.heap.size+1) 79 [on,on,on]:=by
  have h:=Row.new (f:=oV) (w.alloc (.cells C 166)) (t:=79) (l:=[on,on,on]) _ rfl;rw [bO] at h;exact h
 have hS1:((w.alloc (.cells C 166)).alloc (.cells #[.slice none 0 0, .slice none 0 0, .slice none 0 0] 79)).heap.size=w.heap.size+2:=by simp
 generalize ((w.alloc (.cells C 166)).alloc (.cells #[.slice none 0 0, .slice none 0 0, .slice none 0 0] 79))=W at hB0 hT1 iw hS1 ⊢;clear hT0;obtain ⟨tb,dx⟩:∃tb,Hid (w.heap.size=tb):=⟨_,Lib.hid rfl⟩
 rw [dx.out] at hB0 hT1 iw hS1 ⊢;go_wp2_with fail;refine aC (S:=fun X=>Below W.heap.size W X) 8 rfl (by kernel_rfl) (ak _ _).drew fun hS=> ?_;refine tk 0 18 (.agg C) hS ?_ rfl (aA (f:=oV) (l:=L) xC (.tmp 1) rfl tb 0 rfl (fun X h=>(hT1.below h hT1.lt).at) HCe.out rfl);refine tk 1 19 (.agg C) hS ?_ rfl (aA (f:=oV) (l:=L) xC (.tmp 1) rfl tb 0 rfl (fun X h=>(hT1.below h hT1.lt).at) HCe.out rfl);refine iT 2 (fun K' hK=> ?_);refine cD 20 228 #[.agg C] ?_;refine (V9 _ C T (HC.out.below (by rw [dx.out];exact hB0.drew)) HT.out).mono ?_;rintro e Wa ⟨pl,cl,rfl,hOl,hBl⟩;have hS2:=hS.trans (hBl.mono hS.size);refine ⟨_,rfl,hK.out _ _ hS2 fun _=> ?_⟩;clear hK hS;simp only [sA,sB,sC];refine iT 3 (fun K' hK=> ?_);refine cD 21 227 #[.agg C, .slice pl T.reach.length cl] ?_;refine (abQ Wa C T (HC.out.below (by rw [dx.out];exact hB0.trans (hS2.mono (by omega)))) HT.out _ T.reach hOl.rd HT.out.reach).mono ?_;rintro e Wb ⟨p1,c1,p2,c2,rfl,lK,hO2,hBb⟩;have dY:=hS2.trans (hBb.mono hS2.size);refine ⟨_,rfl,hK.out _ _ dY fun _=> ?_⟩;clear hK hBl;obtain ⟨BR,VK⟩:∃p,Hid (T.refine T.reach=p):=⟨_,Lib.hid rfl⟩
 rw [VK.out] at lK hO2 ⊢;simp only [sA,sB,sC];refine tk 4 17 (.tuple #[.slice p1 BR.1.length c1, .slice p2 BR.2.length c2]) dY ?_;refine tk 5 22 (.slice p1 BR.1.length c1) dY ?_;refine tk 6 23 (.slice p2 BR.2.length c2) dY ?_;refine tk 7 3 (.slice p1 BR.1.length c1) dY ?_;refine aL (by kernel_rfl) ?_;simp only [List.drop];replace lK:=lK.mono (show tb+2≤Wa.heap.size by have:=hS2.size;omega);replace hO2:=hO2.mono (show tb+2≤Wa.heap.size by have:=hS2.size;omega);clear hBb hS2 hOl;have uB:=hT1.below dY hT1.lt;have EX:=iw.below dY iw.lt;have hB3:=hB0.trans (dY.mono (by omega));have hCb:=HC.out.below (by rw [dx.out];exact hB3);have JE:TN T.nx.length T.reach BR:=by rw [← VK.out];exact T.JU HT.out.reach
 have hsz:tb+2≤Wb.heap.size:=by have:=dY.size;omega
 clear dY hT1 iw hB0
 go_upto_region 3 with (first
  | ((with_reducible refine zL uB.at xC HCe.out ?_))
  | (go_at_call 229;refine (acp Wb C T hCb HT.out _ _ BR.1 BR.2 T.reach lK.rd hO2.rd HT.out.reach JE).mono ?_;rintro e Wc ⟨q1,d1,q2,d2,rfl,hMc,hMk,jH⟩))
 have hAC:bR Tryz.prog 79 3:=bN;obtain ⟨M,HM⟩:∃M,Hid (T.merge (BR.1,BR.2)=M):=⟨_,Lib.hid rfl⟩
 have hMo:M.Ok T.cells 256:=by rw [← HM.out];exact lN HT.out _ _ 256 (af _)
 rw [HM.out] at hMc hMk ⊢;obtain ⟨b,az⟩:=BR;simp only at lK hO2 JE HM ⊢;have hrB:=lK.rd.below jH;have hrR:=hO2.rd.below jH;have hrC:=hMc.rd;have hrK:=hMk.rd dX;have YA:=uB.below jH uB.lt;have Jd:=EX.below jH EX.lt;have hB4:=hB3.trans (jH.mono (by omega));have agh:tb+2≤Wc.heap.size:=aJ hsz jH.size;have HMK:=Lib.hid hMk;have hsz2:=Lib.hid hsz;clear lK hO2 hMc hMk jH uB EX hB3 hsz hCb;obtain ⟨R,HR⟩:∃n,Hid (az.length=n):=⟨_,Lib.hid rfl⟩
 obtain ⟨n,Hn⟩:∃n,Hid (b.length=n):=⟨_,Lib.hid rfl⟩
 obtain ⟨m,Hm⟩:∃n,Hid (M.cells.length=n):=⟨_,Lib.hid rfl⟩
 obtain ⟨mc,Hmc⟩:∃n,Hid (M.cls.length=n):=⟨_,Lib.hid rfl⟩
 have hRn:R≤65535:=by rw [← HR.out];have h1:=JE.rl;have h2:=HT.out.reach.len;have h3:=HT.out.nn;simp only at h1;omega
 have hn1:1≤n:=by rw [← Hn.out];have h1:=JE.bl;have h2:=HT.out.n1;simp only at h1;omega
 have agA:m≤256:=by rw [← Hm.out,hMo.cl];exact hMo.le
 have hb0:b.getD 0 0<R:=by rw [← HR.out];exact JE.bb _ (aK _ 0 0 (by rw [Hn.out];exact hn1))
 rw [Hn.out] at hrB ⊢;rw [HR.out] at hrR ⊢;rw [Hm.out] at hrC ⊢;rw [Hmc.out] at hrK HMK ⊢;have TP:=Lib.hid hMo;have QE:=Lib.hid JE;have HRC:=Lib.hid hrC;have HRR:=Lib.hid hrR;have HRK:=Lib.hid hrK;clear hMo JE hrC hrR hrK;obtain ⟨B,HB⟩:∃B,Hid (Wc.heap.size=B):=⟨_,Lib.hid rfl⟩
 obtain ⟨bb,bo,rfl,hcb⟩:=iF hrB 0 hn1;have HRB:=Lib.hid hrB;clear hrB;have r7:Row oV (Wc.alloc (.cells #[.slice none 0 0, .slice none 0 0, .slice none 0 0] 79)) Wc.heap.size 79 [on,on,on]:=Row.new _ _ rfl;have hBa:Below Wc.heap.size Wc (Wc.alloc (.cells #[.slice none 0 0, .slice none 0 0, .slice none 0 0] 79)):=(ak _ _).alloc (af _) _;have jg:(Wc.alloc (.cells #[.slice none 0 0, .slice none 0 0, .slice none 0 0] 79)).heap.size=Wc.heap.size+1:=bO _ _;go_upto_region 4 with ((with_reducible refine zS (l':=[⟨.slice q2 mc d2,rfl⟩,on,on]) r7 bN ?_);(intro W6 hs6 di fO));have gP:=hBa.grown di (by omega) (fun k e=>by injection e with e;omega);rw [jg] at fO;clear r7 hBa jg di;have hmk:=uh W6 R (by omega);obtain ⟨MB,lg⟩:∃C,Hid (C=((List.replicate R 0).map nV).toArray):=⟨_,Lib.hid rfl⟩
 rw [← lg.out] at hmk
 have hpl:Row zV (W6.alloc (.cells MB 3)) W6.heap.size 3 (List.replicate R 0):=by
  rw [lg.out];refine Row.new _ _ ?_;simp [nV,zV]
 have hs7:=hs6.alloc (.cells MB 3);have fD:=gP.alloc (by omega) (.cells MB 3);have vS:(W6.alloc (.cells MB 3)).heap.size=Wc.heap.size+2:=by rw [bO,fO]
 rw [fO] at hpl;go_upto_region 5 with (fail);generalize (W6.alloc (.cells MB 3))=W7 at hpl hs7 fD vS ⊢;clear hmk lg hs6 gP fO;clear W6 MB;have cb:=hcb W7 fD;rw [yh] at cb;obtain ⟨b0,Hb0⟩:∃n,Hid (b.getD 0 0=n):=⟨_,Lib.hid rfl⟩
 rw [Hb0.out] at cb hb0;rw [HB.out] at hpl hs7 fD vS agh ⊢;have hor:Row nV (W7.alloc (.cells #[.int .i64 (b0:Int)] 3)) W7.heap.size 3 [b0]:=Row.new _ _ rfl;rw [vS] at hor;have hor2:=l9 hor (af _) (by unfold maxLen;simp);have aam:=hpl.alloc (.cells #[.int .i64 (b0:Int)] 3);have hs8:=hs7.alloc (.cells #[.int .i64 (b0:Int)] 3);have jf:=fD.alloc (by omega) (.cells #[.int .i64 (b0:Int)] 3);have hz8:(W7.alloc (.cells #[.int .i64 (b0:Int)] 3)).heap.size=B+3:=by rw [bO,vS]
 go_upto_region 6 with (fail);generalize (W7.alloc (.cells #[.int .i64 (b0:Int)] 3))=W8 at hor hor2 aam hs8 jf hz8 ⊢
 have gJ:jI Wc W8 B (B+2) ⟨.slice q2 mc d2,rfl⟩ ⟨[b0],List.replicate R 0,[]⟩ [] [] (some ⟨B+2,0,none⟩) 1 none 0 none 0 []:=
  ⟨jf,hs8,aam,hor2,Own.nil _ _ _,F2.nil,Own.nil _ _ _,by omega,by omega⟩
 have Ws:Hid (∀X,Below B Wc X→X.cell? ⟨bb,bo,none⟩=some (.int .i64 (b0:Int))):=Lib.hid (by
  intro X hX
  rw [← HB.out] at hX
  have h:=hcb X hX
  rwa [yh,Hb0.out] at h)
 have HTR:Hid (qG Wc tb T ⟨.slice pnn nn knn,jC⟩ ⟨.slice paa nn kaa,hva⟩):=Lib.hid ⟨by rw [HL.out];exact YA,h3⟩
 have HGH:Hid (T.canon=⟨M.cls,(qy T b az M.cells (R - 0) 0 (sj b az)).nx,(qy T b az M.cells (R - 0) 0 (sj b az)).ac⟩):=Lib.hid (by
  unfold TB.canon
  rw [VK.out,HM.out]
  show Iy T (b,az) M=_
  unfold Iy
  simp only [HR.out,Nat.sub_zero])
 have Htw:Hid (∀X,Below B Wc X→Below w.heap.size w X):=Lib.hid fun X hX=>by rw [dx.out];exact hB4.trans (hX.mono (by omega))
 have ac9:=Jd.lt;rw [HB.out] at ac9;have HR4:=Lib.hid Jd;clear hpl hs7 fD vS hor hor2 aam hs8 jf hz8 cb hcb Jd YA hB4;go_wp2_with fail
 go_loopw [42] (fun s42 wr=>∃k:Nat,k≤R∧s42= .int .i64 k∧jI Wc wr B (B+2) ⟨.slice q2 mc d2,rfl⟩ ⟨[b0],List.replicate k (-1)++List.replicate (R - k) 0,[]⟩ [] [] (some ⟨B+2,0,none⟩) 1 none 0 none 0 []) (fun s42 _=>R - (intOf s42).toNat)
 case atStart=>exact ⟨0,by omega,rfl,by simpa using gJ⟩
 case round=>
  clear gJ;obtain ⟨k,hk,rfl,gJ⟩:=hrel;by_cases hlt:k<R
  ·have hq:(k:Int)<(R:Int):=by omega
   have hlen:(List.replicate k (-1:Int)++List.replicate (R - k) 0).length=R:=by simp;omega
   have co:=mJ gJ.place k (by rw [hlen];exact hlt);have fo:=gJ.place.frozen k;have QU:=gJ.Fa k (-1)
   have hset:(List.replicate k (-1:Int)++List.replicate (R - k) 0).set k (-1)=List.replicate (k+1) (-1)++List.replicate (R - (k+1)) 0:=by
    rw [show R - k=(R - (k+1))+1 by omega,qcD (n:=R - (k+1)),GA _ _ (by simp),SY,D7,xY,qcw (n:=k),zD];rfl
   simp only [hset] at QU;clear gJ hset hlen;go_wp2_with fail
   go_roundw
   case rel=>exact ⟨k+1,by omega,by go_num,QU⟩
   case measure=>simp [intOf];omega
  ·obtain rfl:R=k:=by omega
   rw [D7,qcl,D8] at gJ;have cb:=Ws.out wr gJ.fB;obtain ⟨v0,co⟩:∃v,wr.cell? ⟨B+1,b0,none⟩=some (.int .i64 v):=⟨_,mJ gJ.place b0 (by simpa using hb0)⟩
   have fo:=gJ.place.frozen b0;have agM:(b0:Int)<(R:Int):=by omega
   have QU:jI Wc (wr.setCell ⟨B+1,b0,none⟩ (.int .i64 0)) B (B+2) ⟨.slice q2 mc d2,rfl⟩ (sj b az).st (sj b az).nx (sj b az).ac (some ⟨B+2,0,none⟩) 1 none 0 none 0 []:=by
    have h:=gJ.Fa b0 0;unfold sj;rw [Hb0.out,HR.out];exact h
   have aem:Hid ((sj b az).Ok R m 0):=Lib.hid (by have h:=UG (block:=b) (az:=az) (m:=m) (by rw [Hb0.out,HR.out];exact hb0);rwa [HR.out] at h);have hol:(sj b az).st.ord.length=1:=rfl;have Hol:=Lib.hid hol;clear gJ hol;generalize Uo:sj b az=a0 at *;have HA0:=Lib.hid Uo;clear Uo;go_wp2_with fail
   go_loopw [9,11] (fun s9 s11 wr=>∃(i:Nat) (a:CA) (po:Option Addr) (co:Nat) (pn:Option Addr) (cn:Nat) (pa:Option Addr) (ca:Nat) (us:List OC) (N:Nat),s9= .slice po a.st.ord.length co∧s11= .int .i64 i∧Hid (qy T b az M.cells (R - 0) 0 a0=qy T b az M.cells (R - i) i a)∧Hid (a.Ok R m i)∧jI Wc wr B N ⟨.slice q2 mc d2,rfl⟩ a.st a.nx a.ac po co pn cn pa ca us) (fun _ s11 _=>R - (intOf s11).toNat)
   case atStart=>exact ⟨0,a0,some ⟨B+2,0,none⟩,1,none,0,none,0,[],B+2,by rw [Hol.out],rfl,Lib.hid rfl,aem,QU⟩
   case round=>
    clear QU aem Hol cb co fo;obtain ⟨i,a,po,co,pn,cn,pa,ca,us,N,rfl,rfl,HG,jq,gJ⟩:=hrel;have hoR:=jq.out.st.o.len;have hil:=jq.out.il;by_cases hlt:i<a.st.ord.length
    ·have hq:(i:Int)<(a.st.ord.length:Int):=by omega
     obtain ⟨og,rfl,ae2,af8,_,aey,afE,_⟩:=gJ.ord.block (by omega);have co1:=Pq gJ.ord i hlt;have hoi:a.st.ord.getD i 0<R:=jq.out.st.o.lt _ (aK _ _ _ hlt);obtain ⟨o,Ho⟩:∃o,Hid (a.st.ord.getD i 0=o):=⟨_,Lib.hid rfl⟩
     rw [Ho.out] at co1 hoi;have agU:(o:Int)<(R:Int):=by omega
     obtain ⟨rb,ro,rfl,hcs⟩:=iF HRR.out o hoi;have cs:=hcs wr (by rw [HB.out];exact gJ.fB);obtain ⟨s,Hs⟩:∃s,Hid (az.getD o 0=s):=⟨_,Lib.hid rfl⟩
     rw [Hs.out] at cs
     have hs:s<nn:=by
      rw [← SF.out,← Hs.out];exact HT.out.reach.lt _ (QE.out.rm _ (aK az o 0 (by rw [HR.out];exact hoi)))
     obtain ⟨MB,lg⟩:∃C,Hid (C=((List.replicate m 0).map nV).toArray):=⟨_,Lib.hid rfl⟩
     have hmk:∀w:World,(Instr.makeSlice 92 (.int .i64 (m:Int)) (.int .i64 (m:Int))).run Tryz.prog w= .ok (.slice (some ⟨w.heap.size,0,none⟩) m m) (w.alloc (.cells MB 3)):=fun w=>by rw [lg.out];exact uh w m (by omega)
     have hrw:Row nV (wr.alloc (.cells MB 3)) wr.heap.size 3 (List.replicate m 0):=by
      rw [lg.out];exact Row.new _ _ rfl
     have xB:=(gJ.mono gJ.nN (af _)).alloc (.cells MB 3);have hz1:(wr.alloc (.cells MB 3)).heap.size=wr.heap.size+1:=bO _ _;have hgo:(Value.slice (some ⟨og,0,none⟩) a.st.ord.length co).ownBlock≠some wr.heap.size:=fun e=>by have e':some og=some wr.heap.size:=e;injection e' with e';omega
     have hgn:(Value.slice pn us.length cn).ownBlock≠some wr.heap.size:=fun e=>by have:=(gJ.next.lt _ e).2;omega
     have hga:(Value.slice pa a.ac.length ca).ownBlock≠some wr.heap.size:=fun e=>by have:=(gJ.acc.lt _ e).2;omega
     have hsz1:=gJ.sz;have hii:(i:Int)≤65535:=by omega
     go_upto_region 17 with (fail);obtain ⟨g1,Hg1⟩:∃g,Hid (wr.heap.size=g):=⟨_,Lib.hid rfl⟩
     rw [Hg1.out] at hrw xB hz1 hgo hgn hga hsz1 ⊢;generalize (wr.alloc (.cells MB 3))=W1 at hrw xB hz1 ⊢;have HGN:=Lib.hid hgn;have HGA:=Lib.hid hga;clear hmk lg gJ co1 cs hcs afE ae2 af8 aey hgn hga;have KS:Hid ((M.cells.take 0).foldl (fun st c=>iW st (jy T.nx b s c)) {a.st with row:=[]}={a.st with row:=[]}):=Lib.hid rfl;have ada:jI Wc W1 B g1 ⟨.slice q2 mc d2,rfl⟩ {a.st with row:=[]} a.nx a.ac (some ⟨og,0,none⟩) co pn cn pa ca us:=⟨xB.fB,xB.Dv,xB.place,xB.ord,xB.next,xB.rows,xB.acc,xB.sz,xB.nN⟩
     have aaH:({a.st with row:=[]}:CS).ord.length=a.st.ord.length:=rfl;have aeC:=Lib.hid aaH;have aaU:Row nV W1 g1 3 (({a.st with row:=[]}:CS).row++List.replicate (m - 0) 0):=by simpa using hrw
     have aef:(Value.slice (some ⟨og,0,none⟩) ({a.st with row:=[]}:CS).ord.length co).ownBlock≠some g1:=hgo;clear aaH xB hrw hgo;generalize hst:({a.st with row:=[]}:CS)=st0 at *;have Xz:=Lib.hid hst;clear hst;go_wp2_with fail
     go_loopw [9,72] (fun s9 s72 wq=>∃(j:Nat) (st:CS) (po:Option Addr) (co:Nat),j≤m∧s72= .int .i64 j∧s9= .slice po st.ord.length co∧Hid ((M.cells.take j).foldl (fun st c=>iW st (jy T.nx b s c)) st0=st)∧jI Wc wq B g1 ⟨.slice q2 mc d2,rfl⟩ st a.nx a.ac po co pn cn pa ca us∧Row nV wq g1 3 (st.row++List.replicate (m - j) 0)∧(Value.slice po st.ord.length co).ownBlock≠some g1∧g1+1≤wq.heap.size) (fun _ s72 _=>m - (intOf s72).toNat)
     case atStart=>exact ⟨0,st0,some ⟨og,0,none⟩,co,by omega,rfl,by rw [aeC.out],KS,ada,aaU,aef,by omega⟩
     case round=>
      clear ada aaU aef hz1 KS;obtain ⟨j,st,po,co,hj,rfl,rfl,HST,gJ,hrow,hog,hsg⟩:=hrel;have hok:=Ac jq.out.st (n:=R) (nx:=T.nx) (block:=b) (fun s c=>by have h:=BI (nx:=T.nx) QE.out s c;simp only [HR.out] at h;exact h) s M.cells j (by rw [Hm.out];exact hj);rw [Xz.out,HST.out] at hok;obtain ⟨hok1,hrl,hol⟩:=hok;have hsR:=hok1.o.len;by_cases hjl:j<m
      ·have hq2:(j:Int)<(m:Int):=by omega
       have hBel:Below Wc.heap.size Wc wr:=by rw [HB.out];exact gJ.fB
       have hW1:=Htw.out wr gJ.fB;obtain ⟨cb1,co1,rfl,hcc⟩:=iF HRC.out j hjl;have cc:=hcc wr hBel;obtain ⟨c,Hc⟩:∃c,Hid (M.cells.getD j 0=c):=⟨_,Lib.hid rfl⟩
       rw [Hc.out] at cc;have hc:c<T.cells:=by rw [← Hc.out];exact TP.out.cb _ (aK _ _ _ (by rw [Hm.out];exact hjl))
       obtain ⟨nb,no,rq,rd,rfl,hnn,hnb,hcr,hrw⟩:=sK HN.out s (by rw [SF.out];exact hs);have cr:wr.cell? ⟨nb,no+s,none⟩=some (.slice rq (T.nx.getD s []).length rd):=(hW1.cell (p:=⟨nb,no+s,none⟩) hnb).trans hcr;have qZ:wr.cell? ⟨tb,257,none⟩=some (.slice (some ⟨nb,no,none⟩) nn knn):=(gJ.fB.cell (p:=⟨tb,257,none⟩) (by show tb<B;omega)).trans HTR.out.nx;have hrl2:(T.nx.getD s []).length=T.cells:=HT.out.rw _ (aK _ _ _ (by rw [SF.out];exact hs));have CU:Hid (∀t∈T.nx.getD s [],t<nn):=Lib.hid (by rw [← SF.out];exact tu HT.out.rb _);have uP:Hid (jy T.nx b s c=b.getD ((T.nx.getD s []).getD c 0) 0):=Lib.hid rfl;obtain ⟨row,xy⟩:∃r,Hid (T.nx.getD s []=r):=⟨_,Lib.hid rfl⟩
       rw [xy.out] at hrw CU hrl2 cr uP;have hcl:c<row.length:=by omega
       obtain ⟨rn,KT⟩:∃r,Hid (row.length=r):=⟨_,Lib.hid rfl⟩
       rw [KT.out] at cr hrw hcl;obtain ⟨Xl,Wt,rfl,hct⟩:=iF hrw c hcl;have ct:=hct wr hW1;obtain ⟨t,Ht⟩:∃t,Hid (row.getD c 0=t):=⟨_,Lib.hid rfl⟩
       have ht:t<nn:=by rw [← Ht.out];exact CU.out _ (aK _ _ _ (by rw [KT.out];exact hcl))
       rw [Ht.out] at ct uP;have agN:n=nn:=by rw [← Hn.out,← SF.out];exact QE.out.bl
       have htn:t<n:=by omega
       obtain ⟨bb2,bo2,e2,hcb⟩:=iF HRB.out t htn;injection e2 with e2
       injection e2 with e3 e4 _
       subst e3 e4;have cb:=hcb wr hBel;obtain ⟨q,Hq⟩:∃q,Hid (b.getD t 0=q):=⟨_,Lib.hid rfl⟩
       rw [Hq.out] at cb uP;have hqR:q<R:=by rw [← uP.out,← HR.out];exact BI (nx:=T.nx) QE.out s c
       have ad9:Hid ((M.cells.take (j+1)).foldl (fun st c=>iW st (jy T.nx b s c)) st0=iW st q):=Lib.hid (by
        have hjm:j<M.cells.length:=by rw [Hm.out];exact hjl
        have e:M.cells[j]=c:=by rw [← Hc.out,dJ,bK hjm];rfl
        rw [dz _ _ _ _ hjm,HST.out,e,uP.out])
       have hpl:q<st.place.length:=by rw [hok1.pl];exact hqR
       have cp:=mJ gJ.place q hpl;obtain ⟨pv,Hpv⟩:∃v,Hid (st.place.getD q 0=v):=⟨_,Lib.hid rfl⟩
       rw [Hpv.out] at cp;have agV:(q:Int)<(R:Int):=by omega
       have hsi:(s:Int)<(nn:Int):=by omega
       have hti:(t:Int)<(n:Int):=by omega
       have ag0:(c:Int)<(rn:Int):=by omega
       have hlr:(st.row++List.replicate (m - j) 0).length=m:=by rw [eH,hrl,SY];omega
       have DL:=Lib.hid hrl;have agP:=Lib.hid hok1;clear hcc hcr hrw hct hcb hnn hnb hW1 hrl2 hcl hrl hol hok1 hBel;by_cases hneg:pv<0
       ·have fo:=gJ.place.frozen q;have Rx:=gJ.Fa q (st.ord.length:Int);have hrow3:=hrow.grown (aB wr (B+1) q (zV (st.ord.length:Int))) (by simp;omega);have abv:=aJ hsg (aB wr (B+1) q (zV (st.ord.length:Int))).size;go_upto_region 23 with (fail);have hW:∃W,Hid (wr.setCell ⟨B+1,q,none⟩ (zV (st.ord.length:Int))=W):=⟨_,Lib.hid rfl⟩
        obtain ⟨W3,HW3⟩:=hW;have hW3:wr.setCell ⟨B+1,q,none⟩ (.int .i64 (st.ord.length:Int))=W3:=HW3.out;rw [HW3.out] at Rx hrow3 abv;rw [hW3];clear hW3 HW3 cp cb ct qZ cr cc gJ hrow fo;have agB:st.ord.length≤65535:=by omega
        have tX:B+2≤W3.heap.size:=Rx.sz;have hO3:=Rx.ord;go_upto_region 24 with (at_builtin;(with_reducible refine Qc D6 (.tmp 98) (.tmp 100) ?_ ?_ tL ?_ hO3 q _ ?_ _ ?_ ?_ ?_ ?_ (st.ord++[q]) ?_ ?_);rfl;rfl;rfl;rfl;rfl;(show (st.ord.length+1) * 8≤_;omega);(show st.ord.length+1≤_;omega);(exact tX);rfl;(intro p8 c8 W8 mP gW hw8));have Y5:=Rx.order mP gW hw8
        have abD:(Value.slice p8 (st.ord++[q]).length c8).ownBlock≠some g1:=fun e=>by
         rcases hw8 _ e with h | h
         ·exact hog h
         ·omega
        have Ny:=(hrow3.alloc (.cells #[.int .i64 (q:Int)] 3)).grown gW (fun e=>hog e.symm);have adn:g1+1≤W8.heap.size:=aJ (aJ abv (by rw [bO];omega)) gW.size
        have cp:W8.cell? ⟨B+1,q,none⟩=some (.int .i64 (st.ord.length:Int)):=by
         have h:=mJ Y5.place q (by rw [qz];exact hpl);rw [gL _ _ _ _ _ hpl,if_pos rfl] at h;exact h
        obtain ⟨v1,cj⟩:∃v,W8.cell? ⟨g1,j,none⟩=some (.int .i64 v):=⟨_,eU Ny j (by rw [hlr];exact hjl)⟩
        have fj:=Ny.frozen j;have Ba:=Ny.set j st.ord.length;rw [zh DL.out hjl] at Ba;have Qo:=Y5.row g1 j (.int .i64 (st.ord.length:Int)) (af _) hsz1 abD HGN.out HGA.out;have abl:=aJ adn (aB W8 g1 j (.int .i64 (st.ord.length:Int))).size;have hlo:(st.ord++[q]).length=st.ord.length+1:=by simp
        have Hlo:=Lib.hid hlo;have afD:=Lib.hid hneg
        have Nj:Hid (jI Wc (W8.setCell ⟨g1,j,none⟩ (.int .i64 (st.ord.length:Int))) B g1 ⟨.slice q2 mc d2,rfl⟩ (iW st q) a.nx a.ac p8 c8 pn cn pa ca us∧Row nV (W8.setCell ⟨g1,j,none⟩ (.int .i64 (st.ord.length:Int))) g1 3 ((iW st q).row++List.replicate (m - (j+1)) 0)∧(iW st q).ord.length=st.ord.length+1∧(Value.slice p8 (iW st q).ord.length c8).ownBlock≠some g1):=Lib.hid (by
         have e:iW st q=⟨st.ord++[q],st.place.set q (st.ord.length:Nat),st.row++[st.ord.length]⟩:=by unfold iW;rw [Hpv.out,if_pos afD.out]
         rw [e]
         exact ⟨Qo.cast rfl rfl,Ba,hlo,abD⟩)
        clear Rx hrow3 abv hO3 gW hw8 Y5 abD Ny adn Ba Qo hlo mP hlr hneg hpl hog;go_wp2_with fail
        go_roundw
        case rel=>exact ⟨_,_,_,_,_,⟨j+1,by omega,by go_num,iW st q,p8,c8,by rw [Nj.out.2.2.1],ad9,Nj.out.1,Nj.out.2.1,Nj.out.2.2.2,by simpa using abl⟩,rfl,rfl,rfl,rfl,rfl⟩
        case measure=>simp [intOf];omega
       ·obtain ⟨v1,cj⟩:∃v,wr.cell? ⟨g1,j,none⟩=some (.int .i64 v):=⟨_,eU hrow j (by rw [hlr];exact hjl)⟩
        have fj:=hrow.frozen j;obtain ⟨pq,Hpq⟩:∃n:Nat,Hid (pv=(n:Int)):=⟨pv.toNat,Lib.hid (qcC (by omega)).symm⟩
        rw [Hpq.out] at cp;have Ba:=hrow.set j pq;rw [zh DL.out hjl] at Ba;have Qo:=gJ.row g1 j (.int .i64 (pq:Int)) (af _) hsz1 hog HGN.out HGA.out;have abl:=aJ hsg (aB wr g1 j (.int .i64 (pq:Int))).size;have hpq:¬(pq:Int)<0:=by omega
        have hneg':¬st.place.getD q 0<0:=by rw [Hpv.out];exact hneg
        have Nj:Hid (jI Wc (wr.setCell ⟨g1,j,none⟩ (.int .i64 (pq:Int))) B g1 ⟨.slice q2 mc d2,rfl⟩ (iW st q) a.nx a.ac po co pn cn pa ca us∧Row nV (wr.setCell ⟨g1,j,none⟩ (.int .i64 (pq:Int))) g1 3 ((iW st q).row++List.replicate (m - (j+1)) 0)∧(iW st q).ord.length=st.ord.length∧(Value.slice po (iW st q).ord.length co).ownBlock≠some g1):=Lib.hid (by
         have e:iW st q={st with row:=st.row++[pq]}:=by
          unfold iW;rw [if_neg hneg',Hpv.out,Hpq.out];rfl
         rw [e]
         exact ⟨Qo.cast rfl rfl,Ba,rfl,hog⟩)
        clear gJ hrow Qo Ba hneg hneg' hlr hpl hog;go_wp2_with fail
        go_roundw
        case rel=>exact ⟨j+1,iW st q,po,co,by omega,by go_num,by rw [Nj.out.2.2.1],ad9,Nj.out.1,Nj.out.2.1,Nj.out.2.2.2,abl⟩
        case measure=>simp [intOf];omega
      ·obtain rfl:m=j:=by omega
       rw [D7,qcl,D8] at hrow
       have Xi:Hid (FB T.nx b s M.cells a.st=st):=Lib.hid (by
        have h:=HST.out
        rw [pM (by rw [Hm.out];exact af _)] at h
        unfold FB
        rw [Xz.out];exact h)
       have rQ:us.length=i:=by rw [lV gJ.rows];exact jq.out.nl
       have Gx:=Lib.hid rQ;have afl:us.length≤65535:=by omega
       have c1B:wr.cell? ⟨B,1,none⟩=some (.slice pn us.length cn):=gJ.Dv.cell? 1;have f1B:=gJ.Dv.frozen 1;have tX:B+2≤wr.heap.size:=gJ.sz;have hO3:=gJ.next;obtain ⟨y,Hy⟩:∃y:OC,Hid (y.1= .slice (some ⟨g1,0,none⟩) m m):=⟨⟨.slice (some ⟨g1,0,none⟩) m m,rfl⟩,Lib.hid rfl⟩
       have hyo:Value.slice (some ⟨g1,0,none⟩) m m=oV y:=Hy.out.symm;obtain ⟨uS,Cg⟩:∃l,Hid (us++[y]=l):=⟨_,Lib.hid rfl⟩
       have ad8:uS.length=us.length+1:=by rw [← Cg.out];simp
       have agD:=Lib.hid ad8;have Ue:=Lib.hid (gJ.alloc (.cells #[.slice (some ⟨g1,0,none⟩) m m] 92)).Dv;have SL:Hid (some B≠(Value.slice pn us.length cn).ownBlock):=Lib.hid (fun e=>by have:=(hO3.lt _ e.symm).1;omega);have Hyo:=Lib.hid hyo;clear rQ hyo ad8;go_upto_region 27 with (at_builtin;(with_reducible refine fq S9 (.tmp 111) (.tmp 113) ?_ ?_ bC ?_ hO3 y _ ?_ _ ?_ ?_ ?_ ?_ uS ?_ ?_);rfl;rfl;rfl;(exact Hyo.out);rfl;(show (us.length+1) * 24≤_;omega);(show us.length+1≤_;omega);(exact tX);(exact Cg.out);(intro p8 c8 W8 mP jf gW);(have J9:=Ue.out.grown gW SL.out);(have Rk:W8.cell? ⟨B,1,none⟩=some (.slice pn us.length cn):=J9.cell? 1);(have RU:=J9.frozen 1));have hrm:st.row.length=m:=hrl
       have zU:jI Wc (W8.setCell ⟨B,1,none⟩ (.slice p8 uS.length c8)) B W8.heap.size ⟨.slice q2 mc d2,rfl⟩ st (a.nx++[st.row]) a.ac po co p8 c8 pa ca uS:=by
        rw [← Cg.out] at mP ⊢;have hgs:=gW.size;rw [bO] at hgs;exact gJ.BA hrow hsz1 hog (by omega) (by rw [hrm];exact Hy.out) mP gW (by omega) (by omega) (af _)
       generalize (W8.setCell ⟨B,1,none⟩ (.slice p8 uS.length c8))=mV at zU ⊢;obtain ⟨N2,o9⟩:∃N2,Hid (W8.heap.size=N2):=⟨_,Lib.hid rfl⟩
       rw [o9.out] at zU;clear J9 Rk RU mP gW jf hO3 c1B f1B tX gJ hrow hrl hrm;have c2B:mV.cell? ⟨B,2,none⟩=some (.slice pa a.ac.length ca):=zU.Dv.cell? 2;have LG:mV.cell? ⟨tb,258,none⟩=some (.slice paa nn kaa):=(zU.fB.cell (p:=⟨tb,258,none⟩) (by show tb<B;omega)).trans HTR.out.ac;obtain ⟨ab,ao,rfl,hca⟩:=tZ HA.out s hs;have WO:=hca mV (Htw.out _ zU.fB);obtain ⟨bz,Hbz⟩:∃z,Hid (T.ac.getD s false=z):=⟨_,Lib.hid rfl⟩
       rw [Hbz.out] at WO;have MV:=zU.acc;have hal:=jq.out.al;have adB:(a.ac.length+1) * 1≤140737488355328:=by omega
       have aeJ:a.ac.length+1≤140737488355328:=by omega
       have tX:B+2≤mV.heap.size:=zU.sz;obtain ⟨DJ,yx⟩:∃l,Hid (a.ac++[bz]=l):=⟨_,Lib.hid rfl⟩
       have Vm:=Lib.hid (zU.alloc (.cells #[.bool bz] 4)).Dv;have HAB:Hid (some B≠(Value.slice pa a.ac.length ca).ownBlock):=Lib.hid (fun e=>by have:=(MV.lt _ e.symm).1;omega);have hsi:(s:Int)<(nn:Int):=by omega
       have zZ:=Lib.hid hal;have agi:(mV.alloc (.cells #[.bool bz] 4)).cell? ⟨B,2,none⟩=some (.slice pa a.ac.length ca):=Vm.out.cell? 2;clear hal hca Ue SL;go_wp2_with fail;go_region_law ((go_loud (refine Bi (w:=mV) (f:=Value.bool) (base:=B+2) (l:=a.ac) (v:= .slice pa a.ac.length ca) NF (.tmp 117) (.tmp 123) 35 ?_ ?_ rfl NQ ?_ MV bz (.bool bz) rfl 4 ?_ adB aeJ tX DJ yx.out ?_));rfl;rfl;rfl;rfl;(intro p9 c9 w9 BF dw hW9);(have DZ:=Vm.out.grown dw HAB.out);(have aaG:w9.cell? ⟨B,2,none⟩=some (.slice pa a.ac.length ca):=DZ.cell? 2);(have Z0:=DZ.frozen 2))
       all_goals
        have adR:Hid (jI Wc (w9.setCell ⟨B,2,none⟩ (.slice p9 DJ.length c9)) B N2 ⟨.slice q2 mc d2,rfl⟩ (om T b az M.cells a i).st (om T b az M.cells a i).nx (om T b az M.cells a i).ac po co p8 c8 p9 c9 uS∧(om T b az M.cells a i).st.ord=st.ord):=Lib.hid (by
         have e:om T b az M.cells a i=⟨st,a.nx++[st.row],a.ac++[bz]⟩:=by
          unfold om
          simp only [Ho.out,Hs.out,Xi.out,Hbz.out]
         rw [e]
         rw [← yx.out] at BF ⊢
         exact ⟨zU.Cn BF dw,rfl⟩)
        have HG1:=Lib.hid (HG.out.trans (Tm T b az M.cells R i a hlt hoR))
        have afn:Hid ((om T b az M.cells a i).Ok R m (i+1)):=Lib.hid (by
         have h:=jq.out
         rw [← Hm.out] at h ⊢
         exact MZ h (fun s c=>by have h:=BI (nx:=T.nx) QE.out s c;simp only [HR.out] at h;exact h) hlt)
        clear BF dw hW9 DZ aaG Z0 agi WO LG c2B zU;go_wp2
        go_roundw
        case rel=>exact ⟨i+1,om T b az M.cells a i,po,co,p8,c8,p9,c9,uS,N2,by rw [adR.out.2],by go_num,HG1,afn,adR.out.1⟩
        case measure=>simp [intOf];omega
    ·have hq:¬(i:Int)<(a.st.ord.length:Int):=by omega
     have HE:Hid (T.canon=⟨M.cls,a.nx,a.ac⟩):=Lib.hid (by rw [HGH.out,HG.out,VM _ _ _ _ _ _ _ (by omega)]);have hdf:=gJ.Dv;have hWw:=Htw.out _ gJ.fB;have hR9:=HR4.out.below gJ.fB ac9;have hbelW:Below Wc.heap.size Wc wr:=by rw [HB.out];exact gJ.fB
     have rQ:us.length=a.nx.length:=lV gJ.rows;have QJ:=Lib.hid gJ;have Gx:=Lib.hid rQ;clear gJ rQ;obtain ⟨L3,xR⟩:∃l:List OC,Hid (l=[⟨.slice q2 mc d2,rfl⟩,⟨.slice pn us.length cn,rfl⟩,⟨.slice pa a.ac.length ca,rfl⟩]):=⟨_,Lib.hid rfl⟩
     rw [← xR.out] at hdf;obtain ⟨C3,PN⟩:∃C,Hid (C=(L3.map oV).toArray):=⟨_,Lib.hid rfl⟩
     have hL3:L3.length=3:=by rw [xR.out];rfl
     have hA3:bR Tryz.prog 79 L3.length:=by rw [hL3];exact bN
     have hLz:L3.length=[on,on,on].length:=hL3
     go_wp2_with (first
      | ((with_reducible refine zL hdf.at hA3 PN.out ?_))
      | ((with_reducible refine aF (f:=oV) (l:=[on,on,on]) (l':=L3) (t:=79) (C:=C3) hA3 (.tmp 2) (.tmp 126) ?_ ?_ (tb+1) ?_ PN.out ?_ hR9 hLz bC ?_);rfl;rfl;rfl;rfl;(intro W9 iH dw sN)))
     have dO:Below w.heap.size w W9:=hWw.grown dw hWw.size (fun k e=>by injection e with e;rw [dx.out];omega);refine bodyPost_ret (aQ (f:=oV) (l:=L3) rfl _ hA3 (tb+1) 0 rfl iH.at) rfl ?_;have ZV:=QJ.out.next.kept dw (fun g hg e=>by have:=(QJ.out.next.lt g hg).1;injection e with e;omega);have ZM:=QJ.out.acc.kept dw (fun g hg e=>by have:=(QJ.out.acc.lt g hg).1;injection e with e;omega);have Ro:=(HMK.out.below' hbelW).grown dw (fun g hg e=>by have h1:=(HMK.out.lt g hg).1;have h2:=hsz2.out;injection e with e;omega);refine ⟨_,rfl,fun X hX=> ?_,dO⟩;rw [HE.out];replace ZV:=ZV.wC hX (by decide);replace ZM:=ZM.wC hX (by decide);replace Ro:=Ro.wC hX (by decide);refine ⟨_,_,_,by rw [xR.out];rfl,Ro.rd dX,?_,ZM.rd⟩;rcases ZV.rd with ⟨p0,e0,e1⟩ | ⟨b1,o1,c1,e1,e2,e3,e4⟩
     ·refine .inl ⟨p0,e0,?_⟩;have rQ:=Gx.out;rw [e1] at rQ;exact xJ.1 rQ.symm
     ·refine .inr ⟨b1,o1,c1,by rw [← Gx.out];exact e1,by rw [← Gx.out];exact e2,fun k hk=> ?_,e4⟩;have Cj:k<us.length:=by rw [Gx.out];exact hk
      obtain ⟨g,u1,u2,u3,_,_,u6⟩:=G9 QJ.out.rows k Cj hk;refine ⟨us[k].1,?_,?_⟩
      ·have h:=e3 k Cj;rw [bK Cj] at h;exact h
      ·rw [u1];exact (l9 (base:=0) ((u2.grown dw (fun e=>by injection e with e;omega)).wC hX (by decide)) (LC _) (by unfold maxLen;show a.nx[k].length≤_;omega)).rd
theorem Hg (w:World) (C:Array Value) (T:TB) (hC:kz w C T) (hT:T.Ok):
  Calls Tryz.prog 177 #[.agg C] w fun e w'=>∃v,e= .returned v∧dm w' v T.canon∧Below w.heap.size w w':=
 (IQ w C T hC hT).mono fun _ w' ⟨v,h1,h2,h3⟩=>⟨v,h1,h2 w' (dL.refl w'),h3⟩
def fF (w':World) (v:Value):Except Nat DF→Prop
 | .ok D=>∃u,v= .tuple #[u, .int .i64 0]∧dm w' u D
 | .error n=>v= .tuple #[.agg #[.slice none 0 0, .slice none 0 0, .slice none 0 0], .int .i64 (n:Int)]
theorem fF.below {w w':World} {v:Value} {r:Except Nat DF} (h:fF w v r) (hb:Below w.heap.size w w'):fF w' v r:=by
 cases r with
 | error n=>exact h
 | ok D=>obtain ⟨u,h1,h2⟩:=h;exact ⟨u,h1,h2.below hb⟩
def bF (p1:Option Addr) (n1 k1:Nat) (p2:Option Addr) (n2 k2:Nat) (p3:Option Addr) (n3 k3:Nat):List OC:=[⟨.slice p1 n1 k1,rfl⟩,⟨.slice p2 n2 k2,rfl⟩,⟨.slice p3 n3 k3,rfl⟩]
theorem dm.parts {w:World} {v:Value} {D:DF} (h:dm w v D):∃p1 k1 p2 k2 p3 k3,v= .agg #[.slice p1 D.cls.length k1, .slice p2 D.nx.length k2, .slice p3 D.ac.length k3]:=by
 obtain ⟨vc,vn,va,rfl,h1,h2,h3⟩:=h;obtain ⟨p1,k1,rfl⟩:=h1.slice;obtain ⟨p2,k2,rfl⟩:=h2.slice;obtain ⟨p3,k3,rfl⟩:=h3.slice;exact ⟨_,_,_,_,_,_,rfl⟩
theorem I4 {w:World} {b:Nat} {t:TypeId} (hr:Row oV w b t [on,on,on]) (i:Nat) (v:Value) (h:w.cell? ⟨b,i,none⟩=some v):v= .slice none 0 0:=by
 rw [hr.cell?] at h
 match i,h with
 | 0,h=>injection h with h;exact h.symm
 | 1,h=>injection h with h;exact h.symm
 | 2,h=>injection h with h;exact h.symm
 | n+3,h=>cases h
theorem LK {α:Type} {f:α→Value} {w w':World} {v:Value} {l:List α} {b:Nat} {t:TypeId} (h:Rd f w v l) (hf:∀x,f x≠ .slice none 0 0) (hr:Row oV w b t [on,on,on]) (hg:w.grownBy w' (some b)):Rd f w' v l:=by
 rcases h with hn | ⟨g,o,cap,rfl,hc,ha,hlt⟩
 ·exact .inl hn
 ·by_cases h0:0<l.length
  ·refine .inr ⟨g,o,cap,rfl,hc,ha.grown hg hlt (fun e=> ?_),bJ hlt hg.size⟩;injection e with e
   subst e;have:=ha 0 h0;rw [bK h0] at this;exact hf _ (I4 hr _ _ this)
  ·exact .inr ⟨g,o,cap,rfl,hc,fun i hi=>by omega,bJ hlt hg.size⟩
theorem dm.avoid {w w':World} {v:Value} {D:DF} {b:Nat} {t:TypeId} (h:dm w v D) (hD:D.Ok) (hr:Row oV w b t [on,on,on]) (hg:w.grownBy w' (some b)):dm w' v D:=by
 obtain ⟨vc,vn,va,rfl,h1,h2,h3⟩:=h;refine ⟨vc,vn,va,rfl,?_,?_,LK h3 (fun x e=>by cases e) hr hg⟩
 ·rcases h1 with hn | ⟨g,o,cap,rfl,hc,ha,hlt⟩
  ·exact .inl hn
  ·refine .inr ⟨g,o,cap,rfl,hc,fun i hi=>(ha i hi).grown hg hlt (fun e=> ?_),bJ hlt hg.size⟩;injection e with e
   subst e;have:=ha i hi 0 (by show 0<4;omega);have:=I4 hr _ _ this;cases this
 ·rcases h2 with hn | ⟨g,o,cap,rfl,hc,ha,hlt⟩
  ·exact .inl hn
  ·refine .inr ⟨g,o,cap,rfl,hc,fun i hi=> ?_,bJ hlt hg.size⟩;obtain ⟨u,e1,e2⟩:=ha i hi;refine ⟨u,(o6 (a:=⟨g,o+i,none⟩) (hg.block g hlt (fun e=> ?_))).trans e1,LK e2 (fun x e=>by cases e) hr hg⟩;injection e with e
   subst e;have e3:=I4 hr _ _ e1;subst e3;have hl:=hD.rw _ (oO hi);have hc1:=hD.c1;rcases e2 with ⟨_,_,e4⟩ | ⟨_,_,_,e4,_⟩
   ·rw [e4] at hl;simp at hl;omega
   ·cases e4
theorem adL (w:World) (C:Array Value) (T:TB) (hC:kz w C T) (hT:T.Ok):
  Calls Tryz.prog 187 #[.agg C] w fun e w'=>∃v,e= .returned v∧fF w' v (lim T)∧Below w.heap.size w w':=by
 have HC:=Lib.hid hC;have HT:=Lib.hid hT;obtain ⟨vn,va,kQ,_,_,h3⟩:=hC;obtain ⟨L,HL⟩:∃L,Hid (bf T vn va=L):=⟨_,Lib.hid rfl⟩
 have Rn:L.length=259:=by rw [← HL.out];exact aR _ _ h3
 have xC:bR Tryz.prog 166 L.length:=by rw [Rn];exact iR
 rw [HL.out] at kQ;clear hT Rn h3;have hT0:Row oV (w.alloc (.cells C 166)) w.heap.size 166 L:=Row.new _ _ (by rw [kQ]);have HCe:=Lib.hid kQ;clear kQ;go_enter Tryz.func187,Tryz.ntmps187;go_upto_region 1 with (fail);have hB0:Below w.heap.size w ((w.alloc (.cells C 166)).alloc (.cells #[.slice none 0 0, .slice none 0 0, .slice none 0 0] 79)):=((ak _ _).alloc (af _) _).alloc (by simp) _;have hT1:=hT0.alloc (.cells #[.slice none 0 0, .slice none 0 0, .slice none 0 0] 79)
 have iw:Row oV ((w.alloc (.cells C 166)).alloc (.cells #[.slice none 0 0, .slice none 0 0, .slice none 0 0] 79)) (w.heap.size+1) 79 [on,on,on]:=by
  have h:=Row.new (f:=oV) (w.alloc (.cells C 166)) (t:=79) (l:=[on,on,on]) _ rfl;rw [bO] at h;exact h
 generalize ((w.alloc (.cells C 166)).alloc (.cells #[.slice none 0 0, .slice none 0 0, .slice none 0 0] 79))=W at hB0 hT1 iw ⊢;clear hT0;have hCW:=HC.out.below hB0;obtain ⟨tb,dx⟩:∃tb,Hid (w.heap.size=tb):=⟨_,Lib.hid rfl⟩
 rw [dx.out] at hB0 hT1 iw ⊢;obtain ⟨D,HD⟩:∃D,Hid (T.canon=D):=⟨_,Lib.hid rfl⟩
 have hcan:=Hg W C T hCW HT.out;rw [HD.out] at hcan;have UX:=Lib.hid hcan;clear hcan hCW
 go_upto_region 2 with (first
  | ((with_reducible refine aN (f:=oV) (l:=L) (C:=C) xC (.tmp 1) ?_ ?_ tb 0 ?_ hT1.at HCe.out ?_);rfl;rfl;rfl)
  | (go_at_call 177;refine UX.out.mono ?_;rintro e Wc ⟨v,rfl,hv,jH⟩;(obtain ⟨p1,k1,p2,k2,p3,k3,rfl⟩:=hv.parts);(have r7:Row oV (Wc.alloc (.cells #[.slice none 0 0, .slice none 0 0, .slice none 0 0] 79)) Wc.heap.size 79 [on,on,on]:=Row.new _ _ rfl);(have HV:=Lib.hid hv);clear hv)
  | ((with_reducible refine aF (f:=oV) (l:=[on,on,on]) (l':=bF p1 D.cls.length k1 p2 D.nx.length k2 p3 D.ac.length k3) (t:=79) (C:= #[.slice p1 D.cls.length k1, .slice p2 D.nx.length k2, .slice p3 D.ac.length k3]) bN (.tmp 4) (.tmp 6) ?_ ?_ Wc.heap.size ?_ ?_ ?_ r7 ?_ bC ?_);rfl;rfl;rfl;rfl;rfl;rfl;(intro W6 hs6 di fO)))
 have hBa:=(ak Wc.heap.size Wc).alloc (af _) (.cells #[.slice none 0 0, .slice none 0 0, .slice none 0 0] 79);have jg:(Wc.alloc (.cells #[.slice none 0 0, .slice none 0 0, .slice none 0 0] 79)).heap.size=Wc.heap.size+1:=bO _ _;have hBx:=jH.trans ((hBa.grown di (by omega) (fun k e=>by injection e with e;omega)).mono jH.size);have EX:=iw.below hBx iw.lt;have hV6:=HV.out.below (hBa.grown di (by omega) (fun k e=>by injection e with e;omega));have gP:=hB0.trans (hBx.mono (aJ (by omega) (show tb+2≤W.heap.size from iw.lt)));have hRl:=EX.lt;have hc1:W6.cell? ⟨Wc.heap.size,1,none⟩=some (.slice p2 D.nx.length k2):=by rw [hs6.cell?];rfl
 obtain ⟨n,Hn⟩:∃n,Hid (D.nx.length=n):=⟨_,Lib.hid rfl⟩
 have HL0:Hid (lim T=if n≤64 then .ok D else .error 2):=Lib.hid (by unfold lim;rw [HD.out,Hn.out]);rw [Hn.out] at hs6 hc1 ⊢;have HV6:=Lib.hid hV6;obtain ⟨cw,Hcw⟩:∃n,Hid (Wc.heap.size=n):=⟨_,Lib.hid rfl⟩
 have hcw:tb+2≤cw:=by rw [← Hcw.out];have:=iw.lt;have:=jH.size;omega
 rw [Hcw.out] at hs6 hc1 ⊢;have hsl:=hs6.lt;clear hV6 hBa jg hBx di fO r7 jH iw hT1;by_cases h64:n≤64
 ·have hgt:decide ((n:Int)>64)=false:=decide_eq_false (by omega);have hgt2:¬(64:Int)<(n:Int):=by omega
  have hres:=HL0.out;rw [if_pos h64] at hres;have Y3:=Lib.hid hres;clear hres
  go_wp2_with (first
   | ((with_reducible refine aN (f:=oV) (l:=bF p1 D.cls.length k1 p2 n k2 p3 D.ac.length k3) (C:= #[.slice p1 D.cls.length k1, .slice p2 n k2, .slice p3 D.ac.length k3]) bN (.tmp 4) ?_ ?_ cw 0 ?_ hs6.at ?_ ?_);rfl;rfl;rfl;rfl)
   | ((with_reducible refine aF (f:=oV) (l:=[on,on,on]) (l':=bF p1 D.cls.length k1 p2 n k2 p3 D.ac.length k3) (t:=79) (C:= #[.slice p1 D.cls.length k1, .slice p2 n k2, .slice p3 D.ac.length k3]) bN (.tmp 2) (.tmp 12) ?_ ?_ (tb+1) ?_ ?_ ?_ EX ?_ bC ?_);rfl;rfl;rfl;rfl;rfl;rfl;(intro W9 iH dw sN)))
  have dO:Below tb w W9:=gP.grown dw (by omega) (fun k e=>by injection e with e;omega);refine bodyPost_ret (v:= .tuple #[.agg #[.slice p1 D.cls.length k1, .slice p2 n k2, .slice p3 D.ac.length k3], .int .i64 0]) (bD (f:=oV) (l:=bF p1 D.cls.length k1 p2 n k2 p3 D.ac.length k3) (t:=3) rfl _ bN (tb+1) 0 rfl iH.at) rfl ?_;refine ⟨_,rfl,?_,by rw [dx.out];exact dO⟩;rw [Y3.out];refine ⟨_,rfl,?_⟩;have h:=HV6.out.avoid (by rw [← HD.out];exact HT.out.canon.1) EX dw;rw [Hn.out] at h;exact h
 ·have hgt:decide ((n:Int)>64)=true:=decide_eq_true (by omega);have hgt2:(64:Int)<(n:Int):=by omega
  have hres:=HL0.out;rw [if_neg h64] at hres;have Y3:=Lib.hid hres;clear hres;go_wp2_with ((with_reducible refine aF (f:=oV) (l:=[on,on,on]) (l':=[on,on,on]) (t:=79) (C:= #[.slice none 0 0, .slice none 0 0, .slice none 0 0]) bN (.tmp 2) (.tmp 11) ?_ ?_ (tb+1) ?_ ?_ ?_ EX ?_ bC ?_);rfl;rfl;rfl;rfl;rfl;rfl;(intro W9 iH dw sN));have dO:Below tb w W9:=gP.grown dw (by omega) (fun k e=>by injection e with e;omega);refine bodyPost_ret (v:= .tuple #[.agg #[.slice none 0 0, .slice none 0 0, .slice none 0 0], .int .i64 2]) (bD (f:=oV) (l:=[on,on,on]) (t:=3) rfl _ bN (tb+1) 0 rfl iH.at) rfl ?_;exact ⟨_,rfl,by rw [Y3.out];rfl,by rw [dx.out];exact dO⟩
theorem Zy (w:World) (v:Value) (D:DF) (hv:dm w v D) (hV:D.V) (uj:gV w) (htl:1<w.heap.size):
  Calls Tryz.prog 175 #[v] w fun e w'=>∃v,e= .returned v∧fF w' v (.ok (bP D).canon)∧Below w.heap.size w w':=by
 have HV:=Lib.hid hV;have HA:=Lib.hid hv;have Qz:=Lib.hid uj;obtain ⟨p1,k1,p2,k2,p3,k3,rfl⟩:=hv.parts;obtain ⟨n1,Z5⟩:∃n,Hid (D.cls.length=n):=⟨_,Lib.hid rfl⟩
 obtain ⟨n2,ZA⟩:∃n,Hid (D.nx.length=n):=⟨_,Lib.hid rfl⟩
 obtain ⟨n3,ZT⟩:∃n,Hid (D.ac.length=n):=⟨_,Lib.hid rfl⟩
 rw [Z5.out,ZA.out,ZT.out] at HA ⊢;clear hv hV uj;go_enter Tryz.func175,Tryz.ntmps175;go_upto_region 1 with (fail);have hD0:Row oV ((w.alloc (.cells #[.slice p1 n1 k1, .slice p2 n2 k2, .slice p3 n3 k3] 79)).alloc (.cells #[.slice none 0 0, .slice none 0 0, .slice none 0 0] 79)) w.heap.size 79 (bF p1 n1 k1 p2 n2 k2 p3 n3 k3):=(Row.new w (.cells #[.slice p1 n1 k1, .slice p2 n2 k2, .slice p3 n3 k3] 79) rfl).alloc _
 have iw:Row oV ((w.alloc (.cells #[.slice p1 n1 k1, .slice p2 n2 k2, .slice p3 n3 k3] 79)).alloc (.cells #[.slice none 0 0, .slice none 0 0, .slice none 0 0] 79)) (w.heap.size+1) 79 [on,on,on]:=by
  have h:=Row.new (f:=oV) (w.alloc (.cells #[.slice p1 n1 k1, .slice p2 n2 k2, .slice p3 n3 k3] 79)) (t:=79) (l:=[on,on,on]) _ rfl;rw [bO] at h;exact h
 have hB0:Below w.heap.size w ((w.alloc (.cells #[.slice p1 n1 k1, .slice p2 n2 k2, .slice p3 n3 k3] 79)).alloc (.cells #[.slice none 0 0, .slice none 0 0, .slice none 0 0] 79)):=((ak _ _).alloc (af _) _).alloc (by simp) _;generalize ((w.alloc (.cells #[.slice p1 n1 k1, .slice p2 n2 k2, .slice p3 n3 k3] 79)).alloc (.cells #[.slice none 0 0, .slice none 0 0, .slice none 0 0] 79))=W at hB0 hD0 iw ⊢;have hval:=He W _ D (HA.out.below hB0) HV.out;have aby:=Lib.hid hval;have afq:=Lib.hid htl;obtain ⟨tb,dx⟩:∃tb,Hid (w.heap.size=tb):=⟨_,Lib.hid rfl⟩
 rw [dx.out] at hB0 hD0 iw ⊢;clear hval htl
 go_upto_region 3 with (first
  | ((with_reducible refine aN (f:=oV) (l:=bF p1 n1 k1 p2 n2 k2 p3 n3 k3) (C:= #[.slice p1 n1 k1, .slice p2 n2 k2, .slice p3 n3 k3]) bN (.tmp 1) ?_ ?_ tb 0 ?_ hD0.at ?_ ?_);rfl;rfl;rfl;rfl)
  | (go_at_call 69;refine aby.out.mono ?_;rintro e Wb ⟨rfl,hBb⟩))
 have Xq:=hD0.below hBb hD0.lt;have hRb:=iw.below hBb iw.lt;have hRl:=iw.lt;have hBw:Below tb w Wb:=hB0.trans (hBb.mono (by omega));have htab:=OJ Wb _ D (HA.out.below (by rw [dx.out];exact hBw)) HV.out.lY (Qz.out.below (by rw [dx.out];exact hBw) afq.out);have U5:=Lib.hid htab;have yK:=Lib.hid (jD HV.out.toOk);clear htab hD0 hB0 hBb iw
 go_wp2_with (first
  | ((with_reducible refine aN (f:=oV) (l:=bF p1 n1 k1 p2 n2 k2 p3 n3 k3) (C:= #[.slice p1 n1 k1, .slice p2 n2 k2, .slice p3 n3 k3]) bN (.tmp 1) ?_ ?_ tb 0 ?_ Xq.at ?_ ?_);rfl;rfl;rfl;rfl)
  | (go_at_call 70;refine U5.out.mono ?_;rintro e Wc ⟨C,rfl,hC,jH⟩)
  | (go_at_call 177;refine (Hg Wc C _ hC yK.out).mono ?_;rintro e Wd ⟨v,rfl,hv,hBd⟩;(obtain ⟨q1,j1,q2,j2,q3,j3,rfl⟩:=hv.parts);(have NL:=hRb.below (jH.trans (hBd.mono jH.size)) (by have:=hRb.lt;omega)))
  | ((with_reducible refine aF (f:=oV) (l:=[on,on,on]) (l':=bF q1 (bP D).canon.cls.length j1 q2 (bP D).canon.nx.length j2 q3 (bP D).canon.ac.length j3) (t:=79) (C:= #[.slice q1 (bP D).canon.cls.length j1, .slice q2 (bP D).canon.nx.length j2, .slice q3 (bP D).canon.ac.length j3]) bN (.tmp 2) (.tmp 10) ?_ ?_ (tb+1) ?_ ?_ ?_ NL ?_ bC ?_);rfl;rfl;rfl;rfl;rfl;rfl;(intro W9 iH dw sN)))
 have dO:Below tb w W9:=(hBw.trans ((jH.trans (hBd.mono jH.size)).mono (by have:=hRb.lt;omega))).grown dw (by have:=NL.lt;omega) (fun k e=>by injection e with e;omega);refine bodyPost_ret (v:= .tuple #[.agg #[.slice q1 (bP D).canon.cls.length j1, .slice q2 (bP D).canon.nx.length j2, .slice q3 (bP D).canon.ac.length j3], .int .i64 0]) (bD (f:=oV) (l:=bF q1 (bP D).canon.cls.length j1 q2 (bP D).canon.nx.length j2 q3 (bP D).canon.ac.length j3) (t:=3) rfl _ bN (tb+1) 0 rfl iH.at) rfl ?_;exact ⟨_,rfl,⟨_,rfl,hv.avoid yK.out.canon.1 NL dw⟩,by rw [dx.out];exact dO⟩
def iZ (s:UInt64):Array Value:= #[.int .u64 (X s)]
theorem Na (s:UInt64) (q:Nat) (h:q<64):(bits .and .u64 (X s / 2 ^ q) 1==1)=mQ s q:=by
 rw [uI s q h,show (1:Int)=X 1 from rfl,qc];unfold mQ;rw [Dr,beq_iff_eq,beq_iff_eq];exact ⟨fun e=>rJ e,fun e=>by rw [e]⟩
structure TgW (w wr:World) (tb:Nat) (T:TB) (v1 v2:OC) (s o:UInt64):Prop where
 tab:qG wr tb T v1 v2
 set:Row oV wr (tb+1) 284 [ow (X s)]
 out:Row oV wr (tb+2) 284 [ow (X 0)]
 cur:Row oV wr (tb+3) 284 [ow (X o)]
 fB:Below tb w wr
 sz:tb+4≤wr.heap.size
theorem Mg (w:World) (C:Array Value) (T:TB) (hC:kz w C T) (hT:T.Ok) (h64:T.nx.length≤64) (s:UInt64) (b:Nat) (hb:b<256):
  Calls Tryz.prog 183 #[.agg C, .agg (iZ s), .int .i64 (b:Int)] w fun e w'=>e= .returned (.agg (iZ (T.targets s b)))∧Below w.heap.size w w':=by
 obtain ⟨⟨vn,jC⟩,⟨va,hva⟩,kQ,h1,h2,h3⟩:=hC;obtain ⟨pn,kn,rfl⟩:=h1.slice;have HN:=Lib.hid h1;have HT:=Lib.hid hT;obtain ⟨n,Hn⟩:∃n,Hid (T.nx.length=n):=⟨_,Lib.hid rfl⟩
 rw [Hn.out] at HN kQ h64;have hT0:Row oV (w.alloc (.cells C 166)) w.heap.size 166 (bf T ⟨.slice pn n kn,jC⟩ ⟨va,hva⟩):=Row.new w (.cells C 166) (by rw [kQ]);have hS0:(w.alloc (.cells C 166)).heap.size=w.heap.size+1:=bO _ _;have hB0:Below w.heap.size w (w.alloc (.cells C 166)):=(ak _ _).alloc (af _) _;clear h1 h2 hT kQ;have zC:=Lib.hid hS0;clear hS0;go_enter Tryz.func183,Tryz.ntmps183;go_upto_region 2 with (fail);generalize w.alloc (.cells C 166)=W at hT0 hB0 zC ⊢
 have m1:Row oV (W.alloc (.cells (iZ s) 284)) (w.heap.size+1) 284 [ow (X s)]:=by
  have h:=Row.new (f:=oV) W (t:=284) (l:=[ow (X s)]) (.cells (iZ s) 284) rfl
  rwa [zC.out] at h
 have z1:(W.alloc (.cells (iZ s) 284)).heap.size=w.heap.size+2:=by rw [bO,zC.out]
 have t1:=hT0.alloc (.cells (iZ s) 284);have b1:=hB0.alloc (by rw [zC.out];omega) (.cells (iZ s) 284);generalize (W.alloc (.cells (iZ s) 284))=W1 at m1 z1 t1 b1 ⊢
 have m2:Row oV (W1.alloc (.cells #[.int .u64 0] 284)) (w.heap.size+2) 284 [ow (X 0)]:=by
  have h:=Row.new (f:=oV) W1 (t:=284) (l:=[ow (X 0)]) (.cells #[.int .u64 0] 284) rfl
  rwa [z1] at h
 have z2:(W1.alloc (.cells #[.int .u64 0] 284)).heap.size=w.heap.size+3:=by rw [bO,z1]
 have t2:=t1.alloc (.cells #[.int .u64 0] 284);have m1':=m1.alloc (.cells #[.int .u64 0] 284);have b2:=b1.alloc (by rw [z1];omega) (.cells #[.int .u64 0] 284);generalize (W1.alloc (.cells #[.int .u64 0] 284))=W2 at m1' m2 z2 t2 b2 ⊢
 have m3:Row oV (W2.alloc (.cells #[.int .u64 0] 284)) (w.heap.size+3) 284 [ow (X (F7 T s b 0))]:=by
  have h:=Row.new (f:=oV) W2 (t:=284) (l:=[ow (X 0)]) (.cells #[.int .u64 0] 284) rfl
  rwa [z2] at h
 have hJ:TgW w (W2.alloc (.cells #[.int .u64 0] 284)) w.heap.size T ⟨.slice pn n kn,jC⟩ ⟨va,hva⟩ s (F7 T s b 0):=⟨⟨t2.alloc _,h3⟩,m1'.alloc _,m2.alloc _,m3,b2.alloc (by rw [z2];omega) _,by rw [bO,z2];omega⟩
 generalize (W2.alloc (.cells #[.int .u64 0] 284))=W3 at hJ ⊢;clear m1 z1 t1 b1 m1' m2 z2 t2 b2 m3 hT0 hB0 zC;clear W W1 W2;obtain ⟨tb,dx⟩:∃tb,Hid (w.heap.size=tb):=⟨_,Lib.hid rfl⟩
 rw [dx.out] at hJ ⊢;rw [show tb+1+1+1=tb+3 from rfl,show tb+1+1=tb+2 from rfl];have qZ:=hJ.tab.nx;go_wp2_with fail
 go_loopw [12] (fun s12 wr=>∃(q:Nat) (o:UInt64),q≤n∧s12= .int .i64 q∧Hid (F7 T s b q=o)∧TgW w wr tb T ⟨.slice pn n kn,jC⟩ ⟨va,hva⟩ s o) (fun s12 _=>n - (intOf s12).toNat)
 case atStart=>exact ⟨0,_,by omega,rfl,Lib.hid rfl,hJ⟩
 case round=>
  clear hJ qZ;obtain ⟨q,o,hq,rfl,HO,hJ⟩:=hrel;by_cases hlt:q<n
  ·have hqi:(q:Int)<(n:Int):=by omega
   have c0:wr.cell? ⟨tb+1,0,none⟩=some (.int .u64 (X s)):=hJ.set.cell? 0;have c2:wr.cell? ⟨tb+3,0,none⟩=some (.int .u64 (X o)):=hJ.cur.cell? 0;have f2:=hJ.cur.frozen 0;have qZ:=hJ.tab.nx;have cb:=hJ.tab.c b hb;have hX:=fH s;have HB:=Na s q (by omega);have HT1:Hid (F7 T s b (q+1)=if mQ s q=true then o ||| ((1:UInt64)<<<UInt64.ofNat (T.to q b)) else o):=Lib.hid (by rw [F7,HO.out]);by_cases hbit:mQ s q=true
   ·have hcond:(bits .and .u64 (X s / 2 ^ q) 1==1)=true:=by rw [HB];exact hbit
    rw [if_pos hbit] at HT1;have hW1:Below w.heap.size w wr:=by rw [dx.out];exact hJ.fB
    obtain ⟨nb,no,rq,rd,rfl, -,hnb,hcr,hrw⟩:=sK HN.out q (by rw [Hn.out];exact hlt);have cr:wr.cell? ⟨nb,no+q,none⟩=some (.slice rq (T.nx.getD q []).length rd):=(hW1.cell (p:=⟨nb,no+q,none⟩) hnb).trans hcr;have hrl2:(T.nx.getD q []).length=T.cells:=HT.out.rw _ (aK _ _ _ (by rw [Hn.out];exact hlt));have CU:Hid (∀t∈T.nx.getD q [],t<n):=Lib.hid (by rw [← Hn.out];exact tu HT.out.rb _);have hcT:T.cell.getD b 0<T.cells:=kX HT.out b hb;have uP:Hid (T.to q b=(T.nx.getD q []).getD (T.cell.getD b 0) 0):=Lib.hid rfl;obtain ⟨row,xy⟩:∃r,Hid (T.nx.getD q []=r):=⟨_,Lib.hid rfl⟩
    obtain ⟨c,Hc⟩:∃c,Hid (T.cell.getD b 0=c):=⟨_,Lib.hid rfl⟩
    rw [xy.out] at hrw CU hrl2 cr uP;rw [Hc.out] at cb hcT uP;obtain ⟨rn,KT⟩:∃r,Hid (row.length=r):=⟨_,Lib.hid rfl⟩
    have hcl:c<rn:=by rw [← KT.out];omega
    rw [KT.out] at cr hrw;obtain ⟨Xl,Wt,rfl,hct⟩:=iF hrw c hcl;have ct:=hct wr hW1;obtain ⟨t,Ht⟩:∃t,Hid (row.getD c 0=t):=⟨_,Lib.hid rfl⟩
    have ht:t<n:=by rw [← Ht.out];exact CU.out _ (aK _ _ _ (by rw [KT.out];exact hcl))
    rw [Ht.out] at ct uP;rw [uP.out] at HT1;have hsh:=KD t (by omega);have hor:=Jh o ((1:UInt64)<<<UInt64.ofNat t);obtain ⟨sh,Hsh⟩:∃z,Hid ((1:UInt64)<<<UInt64.ofNat t=z):=⟨_,Lib.hid rfl⟩
    obtain ⟨o2,Ho2⟩:∃z,Hid (o ||| sh=z):=⟨_,Lib.hid rfl⟩
    rw [Hsh.out] at hsh hor HT1;rw [Ho2.out] at hor HT1;have hci:(c:Int)<(rn:Int):=by omega
    have HJ:=Lib.hid hJ;clear hct hcr hrw hnb hrl2 hcT hcl HB hJ hbit;go_upto_region 6 with (fail);go_wp2_with fail;go_region
    have HJ2:Hid (TgW w (wr.setCell ⟨tb+3,0,none⟩ (.int .u64 (X o2))).drew tb T ⟨.slice (some ⟨nb,no,none⟩) n kn,jC⟩ ⟨va,hva⟩ s o2):=Lib.hid (by
     have hJ:=HJ.out
     have hg:wr.grownBy (wr.setCell ⟨tb+3,0,none⟩ (.int .u64 (X o2))).drew (some (tb+3)):=Mem.ug (aB wr (tb+3) 0 (.int .u64 (X o2)))
     have hz:=hJ.sz
     exact ⟨⟨hJ.tab.row.grown hg (fun e=>by injection e with e;omega),hJ.tab.cl⟩,hJ.set.grown hg (fun e=>by injection e with e;omega),hJ.out.grown hg (fun e=>by injection e with e;omega),(hJ.cur.set 0 (ow (X o2))).drew,hJ.fB.grown hg (by omega) (fun k e=>by injection e with e;omega),aJ hz hg.size⟩)
    generalize (wr.setCell ⟨tb+3,0,none⟩ (.int .u64 (X o2))).drew=W9 at HJ2 ⊢;clear c0 c2 f2 qZ cb cr ct hsh hor hcond;go_wp2
    go_roundw
    case rel=>exact ⟨q+1,_,by omega,by go_num,HT1,HJ2.out⟩
    case measure=>simp [intOf];omega
   ·have hcond:(bits .and .u64 (X s / 2 ^ q) 1==1)=false:=by rw [HB];simpa using hbit
    rw [if_neg hbit] at HT1;clear HB hbit;go_wp2_with fail
    go_roundw
    case rel=>exact ⟨q+1,_,by omega,by go_num,HT1,hJ⟩
    case measure=>simp [intOf];omega
  ·obtain rfl:q=n:=by omega
   have HE:Hid (T.targets s b=o):=Lib.hid (by unfold TB.targets;rw [Hn.out];exact HO.out);have Ic:=hJ.cur;have hout:=hJ.out;have HJ:=Lib.hid hJ;have aS:bR Tryz.prog 284 1:=⟨fun _=>by kernel_rfl,fun _=>by kernel_rfl⟩
   clear hJ
   go_wp2_with (first
    | ((with_reducible refine aN (f:=oV) (l:=[ow (X o)]) (C:=iZ o) aS (.tmp 7) ?_ ?_ (tb+3) 0 ?_ Ic.at ?_ ?_);rfl;rfl;rfl;rfl)
    | ((with_reducible refine aF (f:=oV) (l:=[ow (X 0)]) (l':=[ow (X o)]) (t:=284) (C:=iZ o) aS (.tmp 6) (.tmp 38) ?_ ?_ (tb+2) ?_ ?_ ?_ hout ?_ bC ?_);rfl;rfl;rfl;rfl;rfl;rfl;(intro W9 iH dw sN)))
   have dO:Below tb w W9:=HJ.out.fB.grown dw (by have:=HJ.out.sz;omega) (fun k e=>by injection e with e;omega);refine bodyPost_ret (aQ (f:=oV) (l:=[ow (X o)]) rfl _ aS (tb+2) 0 rfl iH.at) rfl ?_;exact ⟨by rw [HE.out];rfl,by rw [dx.out];exact dO⟩
theorem SV (w:World) (C:Array Value) (T:TB) (hC:kz w C T) (hT:T.Ok) (h64:T.nx.length≤64) (s:UInt64):
  Calls Tryz.prog 186 #[.agg C, .agg (iZ s)] w fun e w'=>e= .returned (.bool (T.some s))∧Below w.heap.size w w':=by
 obtain ⟨⟨vn,jC⟩,⟨va,hva⟩,kQ,h1,h2,h3⟩:=hC;obtain ⟨pa,ka,rfl⟩:=h2.slice;have HA:=Lib.hid h2;have HT:=Lib.hid hT;obtain ⟨n,Hn⟩:∃n,Hid (T.nx.length=n):=⟨_,Lib.hid rfl⟩
 have wK:T.ac.length=n:=by rw [← Hn.out];exact hT.ac
 rw [wK] at HA kQ;rw [Hn.out] at h64;have HS:Hid (T.some s=(List.range n).any fun q=>T.ac.getD q false && mQ s q):=Lib.hid (by unfold TB.some;rw [Hn.out]);have Han:=Lib.hid wK;have hT0:Row oV (w.alloc (.cells C 166)) w.heap.size 166 (bf T ⟨vn,jC⟩ ⟨.slice pa n ka,hva⟩):=Row.new w (.cells C 166) (by rw [kQ]);have hS0:(w.alloc (.cells C 166)).heap.size=w.heap.size+1:=bO _ _;have hB0:Below w.heap.size w (w.alloc (.cells C 166)):=(ak _ _).alloc (af _) _;clear h1 h2 hT kQ wK;have zC:=Lib.hid hS0;clear hS0;go_enter Tryz.func186,Tryz.ntmps186;go_upto_region 1 with (fail);generalize w.alloc (.cells C 166)=W at hT0 hB0 zC ⊢
 have m1:Row oV (W.alloc (.cells (iZ s) 284)) (w.heap.size+1) 284 [ow (X s)]:=by
  have h:=Row.new (f:=oV) W (t:=284) (l:=[ow (X s)]) (.cells (iZ s) 284) rfl
  rwa [zC.out] at h
 have t1:qG (W.alloc (.cells (iZ s) 284)) w.heap.size T ⟨vn,jC⟩ ⟨.slice pa n ka,hva⟩:=⟨hT0.alloc _,h3⟩
 have b1:=hB0.alloc (by rw [zC.out];omega) (.cells (iZ s) 284);generalize (W.alloc (.cells (iZ s) 284))=W1 at m1 t1 b1 ⊢;clear hT0 hB0 zC;obtain ⟨tb,dx⟩:∃tb,Hid (w.heap.size=tb):=⟨_,Lib.hid rfl⟩
 have c0:W1.cell? ⟨w.heap.size+1,0,none⟩=some (.int .u64 (X s)):=m1.cell? 0;have LG:=t1.ac;rw [dx.out] at c0 LG b1 ⊢;have hX:=fH s;go_wp2_with fail
 go_loop [10] (fun s10=>∃q:Nat,q≤n∧s10= .int .i64 q∧Hid (((List.range q).any fun q=>T.ac.getD q false && mQ s q)=false)) (fun s10=>n - (intOf s10).toNat)
 case atStart=>exact ⟨0,by omega,rfl,Lib.hid rfl⟩
 case round=>
  obtain ⟨q,hq,rfl,HO⟩:=hrel;by_cases hlt:q<n
  ·have hqi:(q:Int)<(n:Int):=by omega
   obtain ⟨ab,ao,rfl,hca⟩:=tZ HA.out q hlt;have WO:=hca W1 (by rw [dx.out];exact b1);have HB:=Na s q (by omega);obtain ⟨z,Hz⟩:∃z,Hid (T.ac.getD q false=z):=⟨_,Lib.hid rfl⟩
   obtain ⟨y,Hy⟩:∃z,Hid (mQ s q=z):=⟨_,Lib.hid rfl⟩
   rw [Hz.out] at WO;rw [Hy.out] at HB;have BH:Hid (((List.range (q+1)).any fun q=>T.ac.getD q false && mQ s q)=(z && y)):=Lib.hid (by rw [KR,List.any_append,HO.out];simp only [List.any_cons,List.any_nil,YT,DY,Hz.out,Hy.out])
   have HE:Hid ((z && y)=true→T.some s=true):=Lib.hid (fun h=>by
    rw [HS.out]
    exact qcX.2 ⟨q,LD.2 hlt,by rw [Hz.out,Hy.out];exact h⟩)
   clear hca;cases z with
   | false=>
    clear HB;go_wp2_with fail
    go_round
    case rel=>exact ⟨q+1,by omega,by go_num,Lib.hid (by rw [BH.out];rfl)⟩
    case measure=>simp [intOf];omega
   | true=>
    cases y with
    | false=>
     go_wp2_with fail
     go_round
     case rel=>exact ⟨q+1,by omega,by go_num,Lib.hid (by rw [BH.out];rfl)⟩
     case measure=>simp [intOf];omega
    | true=>
     go_wp2_with fail;go_ret;exact ⟨by rw [HE.out rfl];rfl,by rw [dx.out];exact b1⟩
  ·obtain rfl:q=n:=by omega
   have HE:Hid (T.some s=false):=Lib.hid (by rw [HS.out];exact HO.out);go_wp2_with fail;go_ret;exact ⟨by rw [HE.out];rfl,by rw [dx.out];exact b1⟩
theorem DF.Ok.step {D:DF} (h:D.Ok) {s c:Nat} (hs:s<D.nx.length) (hc:c<D.cls.length):(D.nx.getD s []).length=D.cls.length∧(D.nx.getD s []).getD c 0<D.nx.length:=by
 have e:D.nx.getD s []=D.nx[s]:=by rw [dJ,bK hs];rfl
 have hl:=h.rw _ (oO hs);rw [e];refine ⟨hl,?_⟩;have hc':c<D.nx[s].length:=by omega
 rw [dJ,bK hc'];exact h.rb _ (oO hs) _ (oO hc')
theorem acR {l:List Nat} {n b k:Nat} (h:∀i,i<256→l.getD i 0<n) (hk:k<n) (i:Nat) (hi:i<256):(l.set b k).getD i 0<n:=by
 rw [dJ,Lb];by_cases e:b=i
 ·rw [if_pos e];by_cases hb:b<l.length
  ·rw [if_pos hb];exact hk
  ·rw [if_neg hb];simp;omega
 ·rw [if_neg e,← dJ];exact h i hi
theorem Z6 (c:Cl) {k:Nat} {l:List Nat} {m:Nat} (h:∀i,i<256→l.getD i 0<m) (hk:k<m) (n:Nat):∀i,i<256→(xu c k l n).getD i 0<m:=by
 induction n with
 | zero=>exact h
 | succ n ih=>
  intro i hi;rw [xm];split
  ·exact acR ih hk i hi
  ·exact ih i hi
theorem JA {cls:List Cl} {m:Nat} (hm:1≤m):∀k,k≤m→∀i,i<256→(fC cls k).getD i 0<m
 | 0,_,i,hi=>by
  unfold fC;rw [dJ,Yd];split<;>simp<;>omega
 | k+1,hk,i,hi=>Z6 _ (JA hm k (by omega)) (by omega) _ i hi
def DF.cell (D:DF):List Nat:=fC D.cls D.cls.length
theorem DF.Ok.cell {D:DF} (h:D.Ok) (i:Nat) (hi:i<256):D.cell.getD i 0<D.cls.length:=JA h.c1 _ (af _) i hi
def cellAt (cls:List Cl) (b:Nat):Nat→Nat
 | 0=>0
 | k+1=>if (cls.getD k ⟨0,0,0,0⟩).bit b=true then k else cellAt cls b k
theorem WH (c:Cl) (i b:Nat) (l:List Nat) (hb:b<l.length) (n:Nat):(xu c i l n).getD b 0=if b<n∧c.bit b=true then i else l.getD b 0:=by
 induction n with
 | zero=>rw [if_neg (by omega)];rfl
 | succ n ih=>
  rw [xm];by_cases hc:c.bit n=true
  ·rw [if_pos hc,dJ,Lb];by_cases e:n=b
   ·subst e;rw [if_pos rfl,if_pos (by rw [DW];exact hb),if_pos ⟨by omega,hc⟩];rfl
   ·rw [if_neg e,← dJ,ih];by_cases h:b<n∧c.bit b=true
    ·rw [if_pos h,if_pos ⟨by omega,h.2⟩]
    ·rw [if_neg h,if_neg (fun h2=>h ⟨by omega,h2.2⟩)]
  ·rw [if_neg hc,ih];by_cases h:b<n∧c.bit b=true
   ·rw [if_pos h,if_pos ⟨by omega,h.2⟩]
   ·rw [if_neg h,if_neg (fun h2=>h ⟨by
     rcases Nat.lt_or_eq_of_le (Nat.le_of_lt_succ h2.1) with h3 | h3
     ·exact h3
     ·subst h3;exact absurd h2.2 hc,h2.2⟩)]
theorem Fu (cls:List Cl) (b:Nat) (hb:b<256):∀k,(fC cls k).getD b 0=cellAt cls b k
 | 0=>by unfold fC cellAt;rw [dJ,Yd,if_pos hb];rfl
 | k+1=>by
  rw [fC,WH _ _ _ _ (by rw [yu];exact hb),Fu cls b hb k,cellAt];by_cases h:(cls.getD k ⟨0,0,0,0⟩).bit b=true
  ·rw [if_pos ⟨hb,h⟩,if_pos h]
  ·rw [if_neg (fun h2=>h h2.2),if_neg h]
def DF.to (D:DF) (s:Nat) (b:UInt8):Nat:=(D.nx.getD s []).getD (cellAt D.cls b.toNat D.cls.length) 0
theorem DF.to_eq (D:DF) (s:Nat) (b:UInt8):D.to s b=(D.nx.getD s []).getD (D.cell.getD b.toNat 0) 0:=by
 unfold DF.to DF.cell;rw [Fu _ _ b.toNat_lt]
theorem DF.Ok.to {D:DF} (h:D.Ok) {s:Nat} (hs:s<D.nx.length) (b:UInt8):D.to s b<D.nx.length:=by rw [DF.to_eq];exact (h.step hs (h.cell _ b.toNat_lt)).2
def uz (w:World) (mb:Nat) (D:DF):Prop:=∃vc vn va:OC,Row oV w mb 358 (kN vc vn va D.cell)∧vW w vn.1 D.nx∧Rd Value.bool w va.1 D.ac
theorem uz.below {w w':World} {mb:Nat} {D:DF} (h:uz w mb D) (hb:Below w.heap.size w w'):uz w' mb D:=by
 obtain ⟨vc,vn,va,h1,h2,h3⟩:=h;exact ⟨vc,vn,va,h1.below hb h1.lt,h2.below' hb,h3.below hb⟩
theorem uz.lt {w:World} {mb:Nat} {D:DF} (h:uz w mb D):mb<w.heap.size:=by
 obtain ⟨_,_,_,h1,_⟩:=h;exact h1.lt
theorem uz.to {w:World} {mb:Nat} {D:DF} (h:uz w mb D) (hD:D.Ok) {s:Nat} (hs:s<D.nx.length) (b:UInt8):
  ∃nb no nk rb ro rn rk,∀W,Below w.heap.size w W→W.cell? ⟨mb,1,none⟩=some (.slice (some ⟨nb,no,none⟩) D.nx.length nk)∧W.cell? ⟨nb,no+s,none⟩=some (.slice (some ⟨rb,ro,none⟩) rn rk)∧D.cell.getD b.toNat 0<rn∧W.cell? ⟨mb,3+b.toNat,none⟩=some (.int .i64 (D.cell.getD b.toNat 0:Nat))∧W.cell? ⟨rb,ro+D.cell.getD b.toNat 0,none⟩=some (.int .i64 (D.to s b:Nat)):=by
 obtain ⟨vc,⟨vn,jC⟩,va,h1,h2,h3⟩:=h;obtain ⟨pn,kn,rfl⟩:=h2.slice;obtain ⟨nb,no,rq,rd,rfl,_,hnb,hcr,hrow⟩:=sK h2 s hs;have hc:=hD.cell b.toNat b.toNat_lt;rw [DF.to_eq];obtain ⟨hl,_⟩:=hD.step hs hc;obtain ⟨rb,ro,rfl,hct⟩:=iF hrow (D.cell.getD b.toNat 0) (by omega);refine ⟨nb,no,kn,rb,ro,(D.nx.getD s []).length,rd,fun W hW=>⟨?_,?_,by omega,?_,hct W hW⟩⟩
 ·rw [(hW.cell (p:=⟨mb,1,none⟩) h1.lt),h1.cell?];rfl
 ·exact (hW.cell (p:=⟨nb,no+s,none⟩) hnb).trans hcr
 ·rw [(hW.cell (p:=⟨mb,3+b.toNat,none⟩) h1.lt),h1.cell?,M0 _ _ _ (by unfold DF.cell;rw [yu];exact b.toNat_lt)];rfl
theorem pTo (w:World) (mb s:Nat) (D:DF) (b:UInt8) (hM:uz w mb D) (hD:D.Ok) (hs:s<D.nx.length):
  Calls Tryz.prog 254 #[.pointer (some ⟨mb,0,none⟩), .int .i64 (s:Int), .int .u8 (b.toNat:Int)] w fun e w'=>e= .returned (.int .i64 (D.to s b:Nat))∧∃m,w'=w.drewN m:=by
 obtain ⟨nb,no,nk,rb,ro,rn,rk,hA⟩:=hM.to hD hs b;obtain ⟨c1,c2,hc,c3,c4⟩:=hA w (ak _ _);have h1:(s:Int)<(D.nx.length:Int):=by omega
 have h2:(b.toNat:Int)<256:=by have:=b.toNat_lt;omega
 have h3:((D.cell.getD b.toNat 0:Nat):Int)<(rn:Int):=by omega
 generalize D.to s b=t at *;generalize D.cell.getD b.toNat 0=c at *;generalize b.toNat=x at *;generalize D.nx.length=n at *;clear hA hM hD hs hc;go_enter Tryz.func254,Tryz.ntmps254;go_wp2_with fail;go_quiet (fail);go_wp2;go_ret;exact ⟨rfl,nq,rfl⟩
def uV (x:UInt64):Value:= .int .u64 (X x)
theorem aex:lD Tryz.prog 327 63 8:=lD.mk' (z:= .int .u64 0) Tryz.underlying327 (by kernel_rfl) rfl
theorem aeQ (w:World) (n:Nat) (hn:n≤4294967296):(Instr.makeSlice 327 (.int .i64 (n:Int)) (.int .i64 (n:Int))).run Tryz.prog w= .ok (.slice (some ⟨w.heap.size,0,none⟩) n n) (w.alloc (.cells ((List.replicate n (0:UInt64)).map uV).toArray 63)):=by
 obtain ⟨i,z,hi,hz,hs,hb,_⟩:=aex.hi
 have hzz:z= .int .u64 0:=by
  have h:(Tryz.prog.info? 63).bind (·.zero)=some (.int .u64 0):=by kernel_rfl
  rw [hi] at h;exact eG (hz.symm.trans h)
 have h:=run_make w 327 63 i z Tryz.underlying327 hi hz .i64 .i64 (n:Int) (n:Int) (by omega) (Int.le_refl _) (by rw [hb];omega) (by omega);rw [PI,hs,hzz,PK] at h;rw [h];show Result.ok _ (w.alloc (.cells (madeCells #[.int .u64 0] n) _))=_
 have e:madeCells #[.int .u64 0] n=((List.replicate n (0:UInt64)).map uV).toArray:=by
  apply WE.1;rw [toList_madeCells_one,qcO];rfl
 rw [e]
def lvB (D:DF) (b:List UInt8) (later:List Bool) (bU:UInt64) (a s:Nat):Bool:=(D.ac.getD s false && later.getD a false) || (decide (a<b.length) && mQ bU (D.to s (b.getD a 0)))
def KE (D:DF) (b:List UInt8) (later:List Bool) (bU x:UInt64) (a:Nat):Nat→UInt64
 | 0=>x
 | s+1=>if lvB D b later bU a s=true then KE D b later bU x a s ||| ((1:UInt64)<<<UInt64.ofNat s) else KE D b later bU x a s
def vJ (D:DF) (b:List UInt8) (later:List Bool):Nat→List UInt64
 | 0=>List.replicate (b.length+1) 0
 | k+1=>(vJ D b later k).set (b.length - k) (KE D b later ((vJ D b later k).getD (b.length - k+1) 0) ((vJ D b later k).getD (b.length - k) 0) (b.length - k) D.ac.length)
theorem Jz (D:DF) (b:List UInt8) (later:List Bool) (k:Nat):(vJ D b later k).length=b.length+1:=by
 induction k with
 | zero=>simp [vJ]
 | succ k ih=>rw [vJ,qz,ih]
theorem Yh (l:List UInt64) (a:Nat):l.set a (l.getD a 0)=l:=by
 rw [dJ];by_cases h:a<l.length
 ·rw [bK h];simp
 ·rw [List.set_eq_of_length_le (by omega)]
theorem Da {w:World} {b:Nat} {t:TypeId} {l:List UInt64} (h:Row uV w b t l) (i:Nat) (hi:i<l.length):w.cell? ⟨b,i,none⟩=some (.int .u64 (X (l.getD i 0))):=by
 rw [h.cell?,dJ,bK hi];rfl
theorem uz.drewN {w:World} {mb:Nat} {D:DF} (h:uz w mb D) (n:Nat):uz (w.drewN n) mb D:=h
theorem nJ (B:Nat) (w:World) (n:Nat):Below B w (w.drewN n):=⟨rfl,rfl,rfl,af _,fun _ _=>rfl⟩
theorem aaV (w:World) (mb n nl kb kl:Nat) (D:DF) (pb pl:Option Addr) (b:List UInt8) (later:List Bool) (hM:uz w mb D) (hD:D.Ok) (h64:D.nx.length≤64) (hb:Rd aV w (.slice pb n kb) b) (hl:Rd Value.bool w (.slice pl nl kl) later) (hnl:n<nl) (hn:n≤65535):
  Calls Tryz.prog 220 #[.pointer (some ⟨mb,0,none⟩), .slice pb n kb, .slice pl nl kl] w fun e w'=>∃bl,e= .returned (.slice (some ⟨bl,0,none⟩) (n+1) (n+1))∧w.heap.size≤bl∧Row uV w' bl 63 (vJ D b later (n+1))∧Below w.heap.size w w':=by
 have hbl:=hb.len;obtain ⟨vc,⟨xO,afN⟩,⟨xV,afp⟩,hmr,hmn,hma⟩:=id hM;obtain ⟨pa,ka,rfl⟩:=hma.slice;have HM:=Lib.hid hM;have HD:=Lib.hid hD;have HB:=Lib.hid hb;have HL:=Lib.hid hl;have HA:=Lib.hid hma;have HR:=Lib.hid hmr;obtain ⟨m,Hm⟩:∃m,Hid (D.ac.length=m):=⟨_,Lib.hid rfl⟩
 have afe:m≤64:=by rw [← Hm.out,hD.ac];exact h64
 have HX:Hid (D.nx.length=m):=Lib.hid (by rw [← Hm.out];exact hD.ac.symm);have GQ:Hid (b.length=n):=Lib.hid hbl.symm;rw [Hm.out] at HR;clear hM hD hb hl hma hmr hmn h64 hbl;have hmk:=aeQ w (n+1) (by omega);rw [show ((n+1:Nat):Int)=(n:Int)+1 by omega] at hmk;obtain ⟨C0,qU⟩:∃C,Hid (((List.replicate (n+1) (0:UInt64)).map uV).toArray=C):=⟨_,Lib.hid rfl⟩
 rw [qU.out] at hmk
 have hR0:Row uV (w.alloc (.cells C0 63)) w.heap.size 63 (vJ D b later 0):=by
  rw [vJ,GQ.out,← qU.out];exact Row.new _ _ rfl
 have hB0:Below w.heap.size w (w.alloc (.cells C0 63)):=(ak _ _).alloc (af _) _;have hS0:w.heap.size<(w.alloc (.cells C0 63)).heap.size:=by rw [bO];omega
 obtain ⟨bl,G5⟩:∃q,Hid (w.heap.size=q):=⟨_,Lib.hid rfl⟩
 go_enter Tryz.func220,Tryz.ntmps220;go_upto_region 2 with (fail);generalize (w.alloc (.cells C0 63))=W at *;clear hmk;rw [G5.out] at hR0 hB0 hS0 ⊢;go_upto_region 3 with (fail)
 go_loopw [8] (fun s8 wr=>∃a k:Nat,a+k=n+1∧s8= .int .i64 ((a:Int) - 1)∧Row uV wr bl 63 (vJ D b later k)∧Below bl w wr) (fun s8 _=>(intOf s8+1).toNat)
 case atStart=>exact ⟨n+1,0,by omega,by congr 1;omega,hR0,hB0⟩
 case round=>
  clear hR0 hB0 hS0;obtain ⟨a,k,hak,rfl,hR,hB⟩:=hrel;have hW1:Below w.heap.size w wr:=by rw [G5.out];exact hB
  cases a with
  | zero=>
   obtain rfl:k=n+1:=by omega
   have hq:¬(0:Int)≤((0:Nat):Int) - 1:=by omega
   go_wp2_with fail;go_ret;exact ⟨bl,rfl,by rw [G5.out];omega,hR,hW1⟩
  | succ a=>
   have hq:(0:Int)≤(a:Int):=by omega
   rw [show ((a+1:Nat):Int) - 1=(a:Int) by omega];obtain rfl:k=n - a:=by omega
   have wK:a≤n:=by omega
   have HS:Hid (vJ D b later (n - a+1)=(vJ D b later (n - a)).set a (KE D b later ((vJ D b later (n - a)).getD (a+1) 0) ((vJ D b later (n - a)).getD a 0) a m)):=Lib.hid (by
    rw [vJ,GQ.out,Hm.out,show n - (n - a)=a by omega])
   have hle:=Jz D b later (n - a);rw [GQ.out] at hle;have hb0:bl<wr.heap.size:=hR.lt;obtain ⟨lb,lo,rfl,hlc⟩:=tZ HL.out a (by omega)
   have c2:wr.cell? ⟨mb,2,none⟩=some (.slice pa m ka):=by
    rw [hW1.cell (p:=⟨mb,2,none⟩) HR.out.lt,HR.out.cell?];rfl
   generalize vJ D b later (n - a)=L at *;have hR0:Row uV wr bl 63 (L.set a (KE D b later (L.getD (a+1) 0) (L.getD a 0) a 0)):=by rw [KE,Yh];exact hR
   clear hR;go_upto_region 6 with (fail);clear c2
   go_loopw [27] (fun SA wq=>∃s:Nat,s≤m∧SA= .int .i64 s∧Row uV wq bl 63 (L.set a (KE D b later (L.getD (a+1) 0) (L.getD a 0) a s))∧Below bl w wq) (fun SA _=>m - (intOf SA).toNat)
   case atStart=>exact ⟨0,by omega,rfl,hR0,hB⟩
   case round=>
    clear hR0 hB hW1 hb0;obtain ⟨s,hs,rfl,hR,hB⟩:=hrel;have hW1:Below w.heap.size w wr:=by rw [G5.out];exact hB
    by_cases hlt:s<m
    ·have hqs:(s:Int)<(m:Int):=by omega
     obtain ⟨ab,ao,rfl,hac⟩:=tZ HA.out s (by rw [Hm.out];exact hlt);have ca:=hac wr hW1;have cl:=hlc wr hW1;have HT:=Lib.hid (show KE D b later (L.getD (a+1) 0) (L.getD a 0) a (s+1)=if lvB D b later (L.getD (a+1) 0) a s=true then KE D b later (L.getD (a+1) 0) (L.getD a 0) a s ||| ((1:UInt64)<<<UInt64.ofNat s) else KE D b later (L.getD (a+1) 0) (L.getD a 0) a s from rfl);generalize KE D b later (L.getD (a+1) 0) (L.getD a 0) a s=y at *;have Hr:Hid (lvB D b later (L.getD (a+1) 0) a s=((D.ac.getD s false && later.getD a false) || (decide (a<n) && mQ (L.getD (a+1) 0) (D.to s (b.getD a 0))))):=Lib.hid (by unfold lvB;rw [GQ.out]);generalize lvB D b later (L.getD (a+1) 0) a s=r at *;have hla:(L.set a y).length=n+1:=by simp [hle]
     have cy:=Da hR a (by omega);rw [show (L.set a y).getD a 0=y by rw [dJ,Lb,if_pos rfl,if_pos (by omega)];rfl] at cy;have fy:=hR.frozen a
     have cz:a<n→wr.cell? ⟨bl,a+1,none⟩=some (.int .u64 (X (L.getD (a+1) 0))):=fun h=>by
      have:=Da hR (a+1) (by omega);rw [show (L.set a y).getD (a+1) 0=L.getD (a+1) 0 by rw [dJ,Lb,if_neg (by omega),← dJ]] at this;exact this
     generalize L.getD (a+1) 0=z at *;generalize D.ac.getD s false=A at *;generalize later.getD a false=E at *
     have hx:a<n→∃bb bo x,pb=some ⟨bb,bo,none⟩∧b.getD a 0=x∧wr.cell? ⟨bb,bo+a,none⟩=some (.int .u8 (x.toNat:Int)):=fun h=>by
      obtain ⟨bb,bo,x,h1,h2,h3⟩:=TW HB.out a h;exact ⟨bb,bo,x,h1,by rw [dJ,h2];rfl,h3 wr hW1⟩
     have ha1:(a:Int)<(nl:Int):=by omega
     go_upto_region 8 with (fail);go_cut [61] (fun s61 wx=>s61= .bool r∧∃q,wx=wr.drewN q)
     ·cases Eu:(A && E) with
      | true=>
       rw [cB] at Eu;obtain ⟨rfl,rfl⟩:=Eu;replace Hr:Hid (r=true):=Lib.hid (by rw [Hr.out];rfl);clear cz hx;go_quiet (fail);go_wp2;go_meet;exact ⟨by rw [Hr.out],nq,rfl⟩
      | false=>
       by_cases hlt2:a<n
       ·have hd:(a:Int)<(n:Int):=by omega
        obtain ⟨bb,bo,x,rfl,hbx,cx⟩:=hx hlt2;have cz:=cz hlt2;replace Hr:Hid (r=mQ z (D.to s x)):=Lib.hid (by rw [Hr.out,Eu,decide_eq_true hlt2,hbx];rfl);have ht:D.to s x<64:=by have:=HD.out.to (s:=s) (by rw [HX.out];exact hlt) x;rw [HX.out] at this;omega
        have hbt:=Na z (D.to s x) ht;rw [← Hr.out] at hbt;have hn1:(a:Int)+1<(n:Int)+1:=by omega
        have hsx:s<D.nx.length:=by rw [HX.out];exact hlt
        clear hx hbx;cases A with
        | true=>
         obtain rfl:E=false:=by simpa using Eu
         clear Eu;go_quiet ((go_at_call 254;exact Calls.quiet_of (pTo _ mb s D x ((HM.out.below hW1).drewN _) HD.out hsx)));go_wp2;go_meet;exact ⟨rfl,nq,rfl⟩
        | false=>
         clear Eu;go_quiet ((go_at_call 254;exact Calls.quiet_of (pTo _ mb s D x ((HM.out.below hW1).drewN _) HD.out hsx)));go_wp2;go_meet;exact ⟨rfl,nq,rfl⟩
       ·have hd:decide ((a:Int)<(n:Int))=false:=by simp;omega
        replace Hr:Hid (r=false):=Lib.hid (by rw [Hr.out,Eu,decide_eq_false hlt2];rfl);clear cz hx;cases A with
        | true=>
         obtain rfl:E=false:=by simpa using Eu
         clear Eu;go_quiet (fail);go_wp2;go_meet;exact ⟨by rw [Hr.out],nq,rfl⟩
        | false=>
         clear Eu;go_quiet (fail);go_wp2;go_meet;exact ⟨by rw [Hr.out],nq,rfl⟩
     clear cz hx Hr ca cl;obtain ⟨rfl,q,rfl⟩:=hcut;cases r with
     | true=>
      have hsh:=KD s (by omega);have hor:=Jh y ((1:UInt64)<<<UInt64.ofNat s);rw [if_pos rfl] at HT;generalize (1:UInt64)<<<UInt64.ofNat s=sh at *;generalize hy2:y ||| sh=y2 at *
      have hR2:=hR.set a y2;rw [List.set_set] at hR2;have hB2:=aM hB (b:=bl) a (af _) (uV y2);go_wp2_with fail;go_region;go_wp2
      go_roundw
      case rel=>exact ⟨s+1,by omega,by go_num,by rw [HT.out];exact hR2,hB2.trans (nJ _ _ _)⟩
      case measure=>simp [intOf]<;>omega
     | false=>
      rw [if_neg (by simp)] at HT;go_wp2
      go_roundw
      case rel=>exact ⟨s+1,by omega,by go_num,by rw [HT.out];exact hR,hB.trans (nJ _ _ _)⟩
      case measure=>simp [intOf]<;>omega
    ·obtain rfl:s=m:=by omega
     rw [← HS.out] at hR;have hq2:¬(s:Int)<(s:Int):=by omega
     go_wp2_with fail
     go_roundw
     case rel=>exact ⟨a,n - a+1,by omega,by go_num,hR,hB⟩
     case measure=>simp [intOf]<;>omega
def Ch (D:DF) (b:List UInt8) (later:List Bool) (live:List UInt64) (lazy:Bool):Nat→Nat→Nat→Int→Int
 | 0,_,_,best=>best
 | f+1,q,s,best=>
  let hit:=D.ac.getD s false && later.getD q false
  let best:=if hit then (q:Int) else best
  if hit && lazy then best
  else if decide (q=b.length) || !mQ (live.getD q 0) s then best
  else Ch D b later live lazy f (q+1) (D.to s (b.getD q 0)) best
theorem Vu (s:UInt64) (q:Nat) (h:q<64):(bits .and .u64 (X s / 2 ^ q) 1==0)= !mQ s q:=by
 have h1:=Na s q h;rw [uI s q h,show (1:Int)=X 1 from rfl,qc] at h1 ⊢
 have h2:((s>>>UInt64.ofNat q) &&& 1).toNat<2:=by
  rw [Qy,show (1:UInt64).toNat=2 ^ 1 - 1 from rfl,Nat.and_two_pow_sub_one_eq_mod];omega
 unfold mQ;generalize (s>>>UInt64.ofNat q) &&& 1=y at *
 have h3:y=0∨y=1:=by
  rcases (by omega:y.toNat=0∨y.toNat=1) with h | h
  ·exact .inl (TK.1 h)
  ·exact .inr (TK.1 h)
 rcases h3 with rfl | rfl<;>rfl
theorem acJ {w:World} {p:Option Addr} {n c:Nat} {l:List UInt64} (hu:Rd uV w (.slice p n c) l) (k:Nat) (hk:k<n):∃(b o:Nat),p=some ⟨b,o,none⟩∧∀X',Below w.heap.size w X'→X'.cell? ⟨b,o+k,none⟩=some (.int .u64 (X (l.getD k 0))):=by
 have hl:=hu.len;obtain ⟨b,o,rfl,_,_,ha,hlt⟩:=hu.nonempty (by omega);have hkl:k<l.length:=by omega
 exact ⟨b,o,rfl,fun X' hX=>((hX.cell (p:=⟨b,o+k,none⟩) hlt).trans (ha k hkl)).trans (by rw [bK hkl,dJ,bK hkl];rfl)⟩
theorem Yn (D:DF) (b:List UInt8) (later:List Bool) (live:List UInt64) (lazy:Bool) (f q s:Nat) (best:Int):Ch D b later live lazy (f+1) q s best=(let hit:=D.ac.getD s false && later.getD q false;let best:=if hit then (q:Int) else best;if hit && lazy then best else if decide (q=b.length) || !mQ (live.getD q 0) s then best else Ch D b later live lazy f (q+1) (D.to s (b.getD q 0)) best):=rfl
theorem adh (w:World) (mb n nl nv mh kb kl kv:Nat) (lazy:Bool) (D:DF) (pb pl pv:Option Addr) (b:List UInt8) (later:List Bool) (live:List UInt64) (hM:uz w mb D) (hD:D.Ok) (h64:D.nx.length≤64) (hb:Rd aV w (.slice pb n kb) b) (hl:Rd Value.bool w (.slice pl nl kl) later) (hv:Rd uV w (.slice pv nv kv) live) (hnl:n<nl) (hnv:n<nv) (hat:mh≤n) (hn:n≤65535):
  Calls Tryz.prog 221 #[.pointer (some ⟨mb,0,none⟩), .slice pb n kb, .int .i64 (mh:Int), .slice pl nl kl, .slice pv nv kv, .bool lazy] w fun e w'=>e= .returned (.int .i64 (Ch D b later live lazy (n+1 - mh) mh 0 (-1)))∧∃m,w'=w.drewN m:=by
 have hbl:=hb.len;obtain ⟨vc,⟨xO,afN⟩,⟨xV,afp⟩,hmr,hmn,hma⟩:=id hM;obtain ⟨pa,ka,rfl⟩:=hma.slice;have HM:=Lib.hid hM;have HD:=Lib.hid hD;have HB:=Lib.hid hb;have HL:=Lib.hid hl;have HV:=Lib.hid hv;have HA:=Lib.hid hma;have HR:=Lib.hid hmr;obtain ⟨m,Hm⟩:∃m,Hid (D.ac.length=m):=⟨_,Lib.hid rfl⟩
 have afe:m≤64:=by rw [← Hm.out,hD.ac];exact h64
 have hm0:0<m:=by rw [← Hm.out,hD.ac];exact hD.n1
 have HX:Hid (D.nx.length=m):=Lib.hid (by rw [← Hm.out];exact hD.ac.symm);have GQ:Hid (b.length=n):=Lib.hid hbl.symm;rw [Hm.out] at HR;obtain ⟨R,HRR⟩:∃R,Hid (Ch D b later live lazy (n+1 - mh) mh 0 (-1)=R):=⟨_,Lib.hid rfl⟩
 rw [HRR.out];clear hM hD hb hl hv hma hmr hmn h64 hbl;go_enter Tryz.func221,Tryz.ntmps221;go_wp2
 go_step3
 go_wp2
 go_step3
 go_wp2_with fail
 go_loopw [13,14,15] (fun s13 TF s15 wr=>∃(s q:Nat) (best:Int),q≤n∧s<m∧s13= .int .i64 s∧TF= .int .i64 best∧s15= .int .i64 q∧Hid (Ch D b later live lazy (n+1 - q) q s best=R)∧∃k,wr=w.drewN k) (fun _ _ s15 _=>n - (intOf s15).toNat)
 case atStart=>exact ⟨0,mh, -1,hat,hm0,rfl,rfl,rfl,HRR,0,rfl⟩
 case round=>
  obtain ⟨s,q,best,hq,hs,rfl,rfl,rfl,HE,k,rfl⟩:=hrel;have c2:w.cell? ⟨mb,2,none⟩=some (.slice pa m ka):=by rw [HR.out.cell?];rfl
  obtain ⟨ab,ao,rfl,hac⟩:=tZ HA.out s (by rw [Hm.out];exact hs);have ca:=hac w (ak _ _);obtain ⟨lb,lo,rfl,hlc⟩:=tZ HL.out q (by omega);have cl:=hlc w (ak _ _);obtain ⟨vb,vo,rfl,hvc⟩:=acJ HV.out q (by omega);have cv:=hvc w (ak _ _)
  have hx:q<n→∃bb bo x,pb=some ⟨bb,bo,none⟩∧b.getD q 0=x∧w.cell? ⟨bb,bo+q,none⟩=some (.int .u8 (x.toNat:Int)):=fun h=>by
   obtain ⟨bb,bo,x,h1,h2,h3⟩:=TW HB.out q h;exact ⟨bb,bo,x,h1,by rw [dJ,h2];rfl,h3 w (ak _ _)⟩
  have hsi:(s:Int)<(m:Int):=by omega
  have hql:(q:Int)<(nl:Int):=by omega
  have hqv:(q:Int)<(nv:Int):=by omega
  rw [show n+1 - q=(n - q)+1 by omega,Yn,GQ.out] at HE;clear hac hlc hvc;generalize D.ac.getD s false=A at *;generalize later.getD q false=E at *;generalize live.getD q 0=z at *;go_upto_region 4 with (fail);go_cut [32] (fun ZC wx=>ZC= .bool (A && E)∧∃j,wx=w.drewN j)
  ·cases A<;>(cases E<;>(go_wp2_with fail;go_meet;exact ⟨rfl,_,rfl⟩))
  clear ca cl c2;obtain ⟨rfl,k,rfl⟩:=hcut;cases Eu:(A && E) with
  | true=>
   rw [Eu] at HE;cases lazy with
   | true=>
    replace HE:Hid ((q:Int)=R):=Lib.hid (by rw [← HE.out];rfl);clear hx cv;go_wp2_with fail
    try rw [qcJ]
    go_ret;exact ⟨by rw [HE.out];rfl,_,rfl⟩
   | false=>
    simp only [Jq,Bool.and_false,if_true,Iu,if_false] at HE;by_cases hqn:q=n
    ·have hd:(q:Int)=(n:Int):=by omega
     replace HE:Hid ((q:Int)=R):=Lib.hid (by rw [← HE.out,decide_eq_true hqn];rfl);clear hx cv;go_wp2_with fail
     try rw [qcJ]
     go_ret;exact ⟨by rw [HE.out];rfl,_,rfl⟩
    ·have abO:q<n:=by omega
     have hd:((q:Int)==(n:Int))=false:=by simp;omega
     rw [decide_eq_false hqn,DY] at HE;have hb0:=Vu z s (by omega);obtain ⟨bb,bo,x,rfl,hbx,cx⟩:=hx abO;rw [hbx] at HE;cases hbt:mQ z s with
     | false=>
      rw [hbt] at hb0 HE;simp only [Nq,Tt] at hb0 HE;replace HE:Hid ((q:Int)=R):=Lib.hid (by rw [← HE.out];rfl);clear hbt cx;go_wp2_with fail
      try rw [qcJ]
      go_ret;exact ⟨by rw [HE.out];rfl,_,rfl⟩
     | true=>
      rw [hbt] at hb0 HE;simp only [Nq,Tt] at hb0 HE;clear hbt;have hqi:(q:Int)<(n:Int):=by omega
      replace HE:Hid (Ch D b later live false (n+1 - (q+1)) (q+1) (D.to s x) (q:Int)=R):=Lib.hid (by rw [show n+1 - (q+1)=n - q by omega];exact HE.out);have ht:=HD.out.to (s:=s) (by rw [HX.out];exact hs) x;rw [HX.out] at ht;go_wp2_with (go_at_call 254;refine (pTo _ mb s D x (HM.out.drewN _) HD.out (by rw [HX.out];exact hs)).mono ?_;rintro e w' ⟨rfl,j,rfl⟩)
      go_roundw
      case rel=>exact ⟨D.to s x,q+1,(q:Int),by omega,ht,rfl,rfl,by go_num,HE,_,rfl⟩
      case measure=>simp [intOf]<;>omega
  | false=>
   rw [Eu] at HE;simp only [Bool.false_and,Iu,if_false] at HE;by_cases hqn:q=n
   ·have hd:(q:Int)=(n:Int):=by omega
    replace HE:Hid (best=R):=Lib.hid (by rw [← HE.out,decide_eq_true hqn];rfl);clear hx cv;go_wp2_with fail
    try rw [qcJ]
    go_ret;exact ⟨by rw [HE.out];rfl,_,rfl⟩
   ·have abO:q<n:=by omega
    have hd:((q:Int)==(n:Int))=false:=by simp;omega
    rw [decide_eq_false hqn,DY] at HE;have hb0:=Vu z s (by omega);obtain ⟨bb,bo,x,rfl,hbx,cx⟩:=hx abO;rw [hbx] at HE;cases hbt:mQ z s with
    | false=>
     rw [hbt] at hb0 HE;simp only [Nq,Tt] at hb0 HE;replace HE:Hid (best=R):=Lib.hid (by rw [← HE.out];rfl);clear hbt cx;go_wp2_with fail
     try rw [qcJ]
     go_ret;exact ⟨by rw [HE.out];rfl,_,rfl⟩
    | true=>
     rw [hbt] at hb0 HE;simp only [Nq,Tt] at hb0 HE;clear hbt;have hqi:(q:Int)<(n:Int):=by omega
     replace HE:Hid (Ch D b later live lazy (n+1 - (q+1)) (q+1) (D.to s x) best=R):=Lib.hid (by rw [show n+1 - (q+1)=n - q by omega];exact HE.out);have ht:=HD.out.to (s:=s) (by rw [HX.out];exact hs) x;rw [HX.out] at ht;go_wp2_with (go_at_call 254;refine (pTo _ mb s D x (HM.out.drewN _) HD.out (by rw [HX.out];exact hs)).mono ?_;rintro e w' ⟨rfl,j,rfl⟩)
     go_roundw
     case rel=>exact ⟨D.to s x,q+1,best,by omega,ht,rfl,rfl,by go_num,HE,_,rfl⟩
     case measure=>simp [intOf]<;>omega
end
section
open Go Go.RowKit Mem
structure Rz (w1:World) (B:Nat) (w:World) (g:Nat) (cs:List Cl) (vr ve:OC) (us:List OC) (rows:List (List Ce)) (ends:List Bool):Prop where
 cls:Row oV w g 65 (cs.flatMap aG)
 own:Mem.Own oV w B 62 vr.1 us
 each:F2 (fun (u:OC) (r:List Ce)=>aP 3 sO w B 61 u.1 r) us rows
 ends:Mem.Own Value.bool w B 4 ve.1 ends
 ds:∀i j,i<us.length→j<us.length→i≠j→∀k,(us.getD i on).1.ownBlock=some k→(us.getD j on).1.ownBlock≠some k
 low:Below w1.heap.size w1 w
 lo:g<B∧w1.heap.size≤g∧B≤w.heap.size
theorem Zu {α β:Type} {R:α→β→Prop}:∀{l:List α} {m:List β},l.length=m.length→(∀i (hi:i<l.length) (hj:i<m.length),R l[i] m[i])→F2 R l m
 | [],[],_,_=> .nil
 | [],_::_,h,_=>by simp at h
 | _::_,[],h,_=>by simp at h
 | a::l,b::m,h,hi=> .cons (hi 0 (by simp) (by simp)) (Zu (by simpa using h) fun i h1 h2=>hi (i+1) (by simpa using h1) (by simpa using h2))
section
variable {w1 w w2:World} {B g:Nat} {cs:List Cl} {vr ve:OC} {us:List OC} {rows:List (List Ce)} {ends:List Bool}
theorem Rz.keep (h:Rz w1 B w g cs vr ve us rows ends) (hb:Below w.heap.size w w2):Rz w1 B w2 g cs vr ve us rows ends:=
 ⟨h.cls.below hb h.cls.lt,h.own.below' hb,bg (fun _ _ d=>d.below' hb) h.each,h.ends.below' hb,h.ds,h.low.trans (hb.mono h.low.size),h.lo.1,h.lo.2.1,aJ h.lo.2.2 hb.size⟩
theorem Rz.row (h:Rz w1 B w g cs vr ve us rows ends) {i:Nat} {u:OC} (hi:us[i]?=some u):∃r,rows[i]?=some r∧aP 3 sO w B 61 u.1 r:=U4 h.each i u hi
theorem acz {w:World} {vr:OC} {us:List OC} {rows:List (List Ce)} (ho:Rd oV w vr.1 us) (he:F2 (fun (u:OC) (r:List Ce)=>nZ 3 sO w u.1 r) us rows):Lv w vr.1 rows:=by
 have hl:=qd he;rcases ho with ⟨p,e,e0⟩ | ⟨b,o,c,e,hc,ha,hb⟩
 ·subst e0;refine .inl ⟨p,e,xJ.1 (by rw [← hl];rfl)⟩
 ·refine .inr ⟨b,o,c,by rw [e,hl],by rw [← hl];exact hc,fun i hi=> ?_,hb⟩;obtain ⟨u,hu,hr⟩:=PX he i rows[i] (bK hi);have hiu:i<us.length:=by omega
  refine ⟨u.1,?_,hr⟩;rw [ha i hiu,hu];rfl
theorem Rz.nz (h:Rz w1 B w g cs vr ve us rows ends) (h3:cs.length=3):ng w (.agg #[.slice (some ⟨g,0,none⟩) 3 3,vr.1,ve.1]) ⟨cs,rows,ends⟩:=by
 refine ⟨_,_,_,rfl,?_,acz h.own.rd (bg (fun _ _ d=>aP.rd d J4) h.each),h.ends.rd⟩;have:=nZ.row (K:=4) (enc:=aG) (l:=cs) h.cls rfl (fun _ _=>rfl);rw [h3] at this;exact this
end
theorem acn (w:World) (p:Option Addr) (c:Nat) (l:List UInt8) (hv:Rd aV w (.slice p l.length c) l):Calls Tryz.prog 9 #[.slice p l.length c] w fun e w'=>∃(B g:Nat) (pr pe:Option Addr) (kr ke:Nat) (us:List OC),e= .returned (.agg #[.slice (some ⟨g,0,none⟩) 3 3, .slice pr (aX l) kr, .slice pe (aX l) ke])∧Rz w B w' g [aT,aI,aH] ⟨.slice pr (aX l) kr,rfl⟩ ⟨.slice pe (aX l) ke,rfl⟩ us (mH l (aX l)) (jK l (aX l))∧us.length=aX l:=by
 refine (ac3 w p c l hv).mono ?_;rintro e w' ⟨B,g,nb,pr,pe,kr,ke,us,X2,X,rfl,hM,hB,hr,h1,h2,hG⟩;have hwB:w.heap.size<B:=by have:=hM.lo.1;have:=hM.lo.2.1;omega
 refine ⟨B,g,pr,pe,kr,ke,us,rfl,⟨hM.cls.grown hG (fun e=>by injection e with e;omega),wm hM.own hwB hG,Zu (by rw [hM.len,ja]) fun i hi hj=> ?_,wm hM.ends hwB hG,?_,hB.grown hG hB.size (fun k e=>by cases e;exact af _),hM.lo.2.2.1,by omega,aJ hM.lo.2.2.2.2 hG.size⟩,hM.len⟩
 ·have hg2:(mH l (aX l))[i]=iO l i 3:=by simp [mH]
  rw [hg2];exact (hM.each i hi).far hwB hG
 ·intro i j hi hj hij k hk;have e1:us.getD i on=us[i]:=by rw [dJ,bK hi];rfl
  have e2:us.getD j on=us[j]:=by rw [dJ,bK hj];rfl
  rw [e1] at hk;rw [e2];exact hM.ds i j hi hj hij k hk
end
end Go.Proofs.YtncnfncglacheaaGreatDoor
