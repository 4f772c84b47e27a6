/- Part of a proof. -/
import Derived.Test.YtncnfncglacheaaGreatDoorFRefine
set_option linter.all false
set_option maxRecDepth 100000
set_option maxHeartbeats 64000000
namespace Go.Proofs.YtncnfncglacheaaGreatDoor
section
open Go Go.RowKit Mem
theorem bQ:bU Tryz.prog 79 3:=⟨fun _=>by kernel_rfl,fun _=>by kernel_rfl⟩
theorem jc {α β:Type} {f:α→Value} {g:β→Value} {w:World} {b1 b2:Nat} {e1 e2:TypeId} {v1 v2:Value} {l1:List α} {l2:List β} (h1:Mem.Own f w b1 e1 v1 l1) (h2:Mem.Own g w b2 e2 v2 l2) (hne:e1≠e2):∀k,v1.ownBlock=some k→v2.ownBlock≠some k:=by
 intro k hk hk2;rcases h1.2 with ⟨rfl,_⟩ | ⟨g1,c1,MU,rfl,_,hc1,_⟩
 ·cases hk
 ·rcases h2.2 with ⟨rfl,_⟩ | ⟨g2,c2,aee,rfl,_,hc2,_⟩
  ·cases hk2
  ·cases hk;cases hk2;rw [hc1] at hc2;injection hc2 with hc2
   injection hc2 with _ hc2
   exact hne hc2
def aay (X:World) (B N:Nat) (vo:Value) (u:OC) (r:List Nat):Prop:=∃g,u.1= .slice (some ⟨g,0,none⟩) r.length r.length∧Row nV X g 3 r∧B+2≤g∧g<N∧vo.ownBlock≠some g∧r.length≤256
structure jP (Wc X:World) (B N:Nat) (vc:OC) (st:CS) (nx:List (List Nat)) (ac:List Bool) (po:Option Addr) (co:Nat) (pn:Option Addr) (cn:Nat) (pa:Option Addr) (ca:Nat) (us:List OC):Prop where
 fH:Below B Wc X
 Dg:Row oV X B 79 [vc,⟨.slice pn us.length cn,rfl⟩,⟨.slice pa ac.length ca,rfl⟩]
 place:Row zV X (B+1) 3 st.place
 ord:Mem.Own nV X (B+2) 3 (.slice po st.ord.length co) st.ord
 next:Mem.Own oV X (B+2) 92 (.slice pn us.length cn) us
 rows:F2 (aay X B N (.slice po st.ord.length co)) us nx
 acc:Mem.Own Value.bool X (B+2) 4 (.slice pa ac.length ca) ac
 sz:B+2≤X.heap.size
 nN:N≤X.heap.size
section
variable {Wc X X':World} {B N:Nat} {vc:OC} {st:CS} {nx:List (List Nat)} {ac:List Bool} {po:Option Addr} {co:Nat} {pn:Option Addr} {cn:Nat} {pa:Option Addr} {ca:Nat} {us:List OC}
theorem jP.grown (h:jP Wc X B N vc st nx ac po co pn cn pa ca us) {row:Option Nat} (hg:X.grownBy X' row) (hr:∀g,row=some g→N≤g∧B+2≤g∧(Value.slice po st.ord.length co).ownBlock≠some g∧(Value.slice pn us.length cn).ownBlock≠some g∧(Value.slice pa ac.length ca).ownBlock≠some g):jP Wc X' B N vc st nx ac po co pn cn pa ca us:=by
 have hz:=h.sz;refine ⟨h.fH.grown hg (by omega) (fun k e=>by have:=(hr k e).2.1;omega),h.Dg.grown hg (fun e=>by have:=(hr _ e.symm).2.1;omega),h.place.grown hg (fun e=>by have:=(hr _ e.symm).2.1;omega),h.ord.kept hg (fun g hg' e=>(hr g e).2.2.1 hg'),h.next.kept hg (fun g hg' e=>(hr g e).2.2.2.1 hg'),?_,h.acc.kept hg (fun g hg' e=>(hr g e).2.2.2.2 hg'),aL h.sz hg.size,aL h.nN hg.size⟩;refine bE ?_ h.rows;rintro u r ⟨g,e1,e2,e3,e4,e5,e6⟩;exact ⟨g,e1,e2.grown hg (fun e=>by have:=(hr g e.symm).1;omega),e3,e4,e5,e6⟩
theorem jP.alloc (h:jP Wc X B N vc st nx ac po co pn cn pa ca us) (o:Obj):jP Wc (X.alloc o) B N vc st nx ac po co pn cn pa ca us:=h.grown (TN X o none) (fun _ e=>by cases e)
theorem jP.mono (h:jP Wc X B N vc st nx ac po co pn cn pa ca us) {M:Nat} (hM:N≤M) (hX:M≤X.heap.size):jP Wc X B M vc st nx ac po co pn cn pa ca us:=
 ⟨h.fH,h.Dg,h.place,h.ord,h.next,bE (fun _ _ ⟨g,e1,e2,e3,e4,e5,e6⟩=>⟨g,e1,e2,e3,by omega,e5,e6⟩) h.rows,h.acc,h.sz,hX⟩
theorem jP.FH (h:jP Wc X B N vc st nx ac po co pn cn pa ca us) (t:Nat) (q:Int):jP Wc (X.setCell ⟨B+1,t,none⟩ (zV q)) B N vc {st with place:=st.place.set t q} nx ac po co pn cn pa ca us:=by
 have hg:=aI X (B+1) t (zV q);have hz:=h.sz;have hl:=h.place.lt;refine ⟨h.fH.grown hg (by omega) (fun k e=>by injection e with e;omega),h.Dg.grown hg (by simp),h.place.set t q,h.ord.kept hg (fun g hg' e=>by have:=(h.ord.lt g hg').1;injection e with e;omega),h.next.kept hg (fun g hg' e=>by have:=(h.next.lt g hg').1;injection e with e;omega),?_,h.acc.kept hg (fun g hg' e=>by have:=(h.acc.lt g hg').1;injection e with e;omega),aL h.sz hg.size,aL h.nN hg.size⟩;refine bE ?_ h.rows;rintro u r ⟨g,e1,e2,e3,e4,e5,e6⟩;exact ⟨g,e1,e2.grown hg (fun e=>by injection e with e;omega),e3,e4,e5,e6⟩
theorem jP.order (h:jP Wc X B N vc st nx ac po co pn cn pa ca us) {o:Obj} {t:Nat} {p:Option Addr} {c:Nat} (hO:Mem.Own nV X' (B+2) 3 (.slice p (st.ord++[t]).length c) (st.ord++[t])) (hG:(X.alloc o).grownBy X' (Value.slice po st.ord.length co).ownBlock) (hw:∀g,(Value.slice p (st.ord++[t]).length c).ownBlock=some g→(Value.slice po st.ord.length co).ownBlock=some g∨X.heap.size+1≤g):
  jP Wc X' B N vc {st with ord:=st.ord++[t]} nx ac p c pn cn pa ca us:=by
 have h':=h.alloc o;have hb:∀g,(Value.slice po st.ord.length co).ownBlock=some g→B+2≤g:=fun g e=>(h.ord.lt g e).1;have hz:=h'.sz;have hty:∀g,(Value.slice pn us.length cn).ownBlock=some g→(Value.slice po st.ord.length co).ownBlock≠some g:=fun g e e'=>jc h.next h.ord (by decide) g e e';have afJ:∀g,(Value.slice pa ac.length ca).ownBlock=some g→(Value.slice po st.ord.length co).ownBlock≠some g:=fun g e e'=>jc h.acc h.ord (by decide) g e e';refine ⟨h'.fH.grown hG (by omega) (fun k e=>by have:=hb k e;omega),h'.Dg.grown hG (fun e=>by have:=hb _ e.symm;omega),h'.place.grown hG (fun e=>by have:=hb _ e.symm;omega),hO,h'.next.kept hG hty,?_,h'.acc.kept hG afJ,aL h'.sz hG.size,aL h'.nN hG.size⟩;have hN:=h.nN;refine bE ?_ h'.rows;rintro u r ⟨g,e1,e2,e3,e4,e5,e6⟩;refine ⟨g,e1,e2.grown hG (fun e=>e5 e.symm),e3,e4,fun e=> ?_,e6⟩;rcases hw g e with h1 | h1
 ·exact e5 h1
 ·omega
end
theorem CR {α β:Type} {R:α→β→Prop}:∀{l:List α} {m:List β} {a:α} {b:β},F2 R l m→R a b→F2 R (l++[a]) (m++[b])
 | _,_,_,_, .nil,h=> .cons h .nil
 | _,_,_,_, .cons h t,h'=> .cons h (CR t h')
theorem l7 {α β:Type} {R:α→β→Prop}:∀{l:List α} {m:List β},F2 R l m→l.length=m.length
 | _,_, .nil=>rfl
 | _,_, .cons _ t=>congrArg Nat.succ (l7 t)
theorem Iz {α β:Type} {R:α→β→Prop}:∀{l:List α} {m:List β},F2 R l m→∀(k:Nat) (h1:k<l.length) (h2:k<m.length),R l[k] m[k]
 | _,_, .cons h _,0,_,_=>h
 | _,_, .cons _ t,k+1,h1,h2=>Iz t k (Nat.lt_of_succ_lt_succ h1) (Nat.lt_of_succ_lt_succ h2)
theorem Tx:lF Tryz.prog 25 92 24:=lF.mk' (z:= .slice none 0 0) Tryz.underlying25 (by kernel_rfl) rfl
section
variable {Wc X X':World} {B N:Nat} {vc:OC} {st:CS} {nx:List (List Nat)} {ac:List Bool} {po:Option Addr} {co:Nat} {pn:Option Addr} {cn:Nat} {pa:Option Addr} {ca:Nat} {us:List OC}
theorem jP.row (h:jP Wc X B N vc st nx ac po co pn cn pa ca us) (g i:Nat) (v:Value) (hg:N≤g) (hB:B+2≤g) (ho:(Value.slice po st.ord.length co).ownBlock≠some g) (hn:(Value.slice pn us.length cn).ownBlock≠some g) (ha:(Value.slice pa ac.length ca).ownBlock≠some g):jP Wc (X.setCell ⟨g,i,none⟩ v) B N vc st nx ac po co pn cn pa ca us:=
 h.grown (aI X g i v) (fun k e=>by injection e with e;subst e;exact ⟨hg,hB,ho,hn,ha⟩)
theorem jP.cast (h:jP Wc X B N vc st nx ac po co pn cn pa ca us) {st':CS} (h1:st.ord=st'.ord) (h2:st.place=st'.place):jP Wc X B N vc st' nx ac po co pn cn pa ca us:=by
 obtain ⟨o,pl,r⟩:=st;obtain ⟨o',pl',r'⟩:=st';simp only at h1 h2;subst h1 h2;exact ⟨h.fH,h.Dg,h.place,h.ord,h.next,h.rows,h.acc,h.sz,h.nN⟩
theorem zo {l:List Nat} {j m x:Nat} (hl:l.length=j) (hj:j<m):(l++List.replicate (m - j) 0).set j x=(l++[x])++List.replicate (m - (j+1)) 0:=by
 subst hl;rw [show m - l.length=(m - (l.length+1))+1 by omega,qc0,H9 _ _ (ah _),Fu,yh,ze];rfl
theorem jP.CG (h:jP Wc X B N vc st nx ac po co pn cn pa ca us) {g:Nat} {r:List Nat} (hr:Row nV X g 3 r) (hgB:B+2≤g) (hog:(Value.slice po st.ord.length co).ownBlock≠some g) (hr2:r.length≤256) {o:Obj} {p:Option Addr} {c:Nat} {u:OC} (hu:u.1= .slice (some ⟨g,0,none⟩) r.length r.length)
  (hO:Mem.Own oV X' (B+2) 92 (.slice p (us++[u]).length c) (us++[u])) (hG:(X.alloc o).grownBy X' (Value.slice pn us.length cn).ownBlock) {M:Nat} (hM:N≤M) (hgM:g<M) (hMX:M≤X'.heap.size):
  jP Wc (X'.setCell ⟨B,1,none⟩ (.slice p (us++[u]).length c)) B M vc st (nx++[r]) ac po co p c pa ca (us++[u]):=by
 have h':=h.alloc o;have hb:∀k,(Value.slice pn us.length cn).ownBlock=some k→B+2≤k:=fun k e=>(h.next.lt k e).1;have hz:=h'.sz
 have hrow:∀k l,Row nV X k 3 l→(Value.slice pn us.length cn).ownBlock≠some k:=by
  intro k l hk e;rcases h.next.2 with ⟨e1,_⟩ | ⟨g1,c1,MU,e1,_,hc1,_⟩
  ·rw [e1] at e;cases e
  ·rw [e1] at e;cases e;unfold Row at hk;rw [hk] at hc1;injection hc1 with hc1
   injection hc1 with _ hc1
   exact absurd hc1 (by decide)
 have hgs:=aI X' B 1 (.slice p (us++[u]).length c);have d1:=(h'.Dg.grown hG (fun e=>by have:=hb _ e.symm;omega)).set 1 ⟨.slice p (us++[u]).length c,rfl⟩;have hbe:Below B Wc X':=h'.fH.grown hG (by omega) (fun k e=>by have:=hb k e;omega);have Jm:B+2≤X'.heap.size:=aL h'.sz hG.size;refine ⟨hbe.grown hgs (by omega) (fun k e=>by injection e with e;omega),d1,(h'.place.grown hG (fun e=>by have:=hb _ e.symm;omega)).grown hgs (fun e=>by injection e with e;omega),(h'.ord.kept hG (fun k hk e=>jc h.next h.ord (by decide) k e hk)).kept hgs (fun k hk e=>by have:=(h.ord.lt k hk).1;injection e with e;omega),hO.kept hgs (fun k hk e=>by have:=(hO.lt k hk).1;injection e with e;omega),?_,(h'.acc.kept hG (fun k hk e=>jc h.next h.acc (by decide) k e hk)).kept hgs (fun k hk e=>by have:=(h.acc.lt k hk).1;injection e with e;omega),aL Jm hgs.size,aL hMX hgs.size⟩
 have hone:aay (X'.setCell ⟨B,1,none⟩ (.slice p (us++[u]).length c)) B M (.slice po st.ord.length co) u r:=
  ⟨g,hu,((hr.alloc o).grown hG (fun e=>hrow g r hr e.symm)).grown hgs (fun e=>by injection e with e;omega),hgB,hgM,hog,hr2⟩
 have hall:F2 (aay (X'.setCell ⟨B,1,none⟩ (.slice p (us++[u]).length c)) B M (.slice po st.ord.length co)) us nx:=by
  refine bE ?_ h.rows;rintro u' r' ⟨k,e1,e2,e3,e4,e5,e6⟩;exact ⟨k,e1,((e2.alloc o).grown hG (fun e=>hrow k r' e2 e.symm)).grown hgs (fun e=>by injection e with e;omega),e3,by omega,e5,e6⟩
 exact CR hall hone
theorem jP.Dn (h:jP Wc X B N vc st nx ac po co pn cn pa ca us) {o:Obj} {b:Bool} {p:Option Addr} {c:Nat}
  (hO:Mem.Own Value.bool X' (B+2) 4 (.slice p (ac++[b]).length c) (ac++[b])) (hG:(X.alloc o).grownBy X' (Value.slice pa ac.length ca).ownBlock):
  jP Wc (X'.setCell ⟨B,2,none⟩ (.slice p (ac++[b]).length c)) B N vc st nx (ac++[b]) po co pn cn p c us:=by
 have h':=h.alloc o;have hb:∀k,(Value.slice pa ac.length ca).ownBlock=some k→B+2≤k:=fun k e=>(h.acc.lt k e).1;have hz:=h'.sz
 have hrow:∀k l,Row nV X k 3 l→(Value.slice pa ac.length ca).ownBlock≠some k:=by
  intro k l hk e;rcases h.acc.2 with ⟨e1,_⟩ | ⟨g1,c1,MU,e1,_,hc1,_⟩
  ·rw [e1] at e;cases e
  ·rw [e1] at e;cases e;unfold Row at hk;rw [hk] at hc1;injection hc1 with hc1
   injection hc1 with _ hc1
   exact absurd hc1 (by decide)
 have hgs:=aI X' B 2 (.slice p (ac++[b]).length c);have d1:=(h'.Dg.grown hG (fun e=>by have:=hb _ e.symm;omega)).set 2 ⟨.slice p (ac++[b]).length c,rfl⟩;have hbe:Below B Wc X':=h'.fH.grown hG (by omega) (fun k e=>by have:=hb k e;omega);have Jm:B+2≤X'.heap.size:=aL h'.sz hG.size;refine ⟨hbe.grown hgs (by omega) (fun k e=>by injection e with e;omega),d1,(h'.place.grown hG (fun e=>by have:=hb _ e.symm;omega)).grown hgs (fun e=>by injection e with e;omega),(h'.ord.kept hG (fun k hk e=>jc h.acc h.ord (by decide) k e hk)).kept hgs (fun k hk e=>by have:=(h.ord.lt k hk).1;injection e with e;omega),(h'.next.kept hG (fun k hk e=>jc h.acc h.next (by decide) k e hk)).kept hgs (fun k hk e=>by have:=(h.next.lt k hk).1;injection e with e;omega),?_,hO.kept hgs (fun k hk e=>by have:=(hO.lt k hk).1;injection e with e;omega),aL Jm hgs.size,aL (aL h'.nN hG.size) hgs.size⟩;refine bE ?_ h.rows;rintro u' r' ⟨k,e1,e2,e3,e4,e5,e6⟩;exact ⟨k,e1,((e2.alloc o).grown hG (fun e=>hrow k r' e2 e.symm)).grown hgs (fun e=>by injection e with e;omega),e3,e4,e5,e6⟩
end
structure dQ (w w':World):Prop where
 size:w.heap.size≤w'.heap.size
 blk:∀g,g<w.heap.size→(∀C k,w.heap[g]?≠some (.cells C 166 k))→w'.heap[g]?=w.heap[g]?
theorem dQ.refl (w:World):dQ w w:=⟨ah _,fun _ _ _=>rfl⟩
theorem dQ.trans {a b c:World} (h:dQ a b) (h2:dQ b c):dQ a c:=
 ⟨aL h.size h2.size,fun g hg hn=>by
  have e:=h.blk g hg hn
  rw [← e]
  exact h2.blk g (bO hg h.size) (by rw [e];exact hn)⟩
theorem dQ.of_below {w w':World} (h:Below w.heap.size w w'):dQ w w':=⟨h.size,fun g hg _=>h.block g hg⟩
theorem dQ.ET {w w':World} {b:Nat} {L:List OC} (hr:Row oV w b 166 L) (h:w.grownBy w' (some b)):dQ w w':=
 ⟨h.size,fun g hg hn=>h.block g hg (fun e=>by injection e with e;subst e;exact hn _ _ hr)⟩
def zQ (w:World) (v:Value) (D:DF):Prop:=∀X,dQ w X→dA X v D
theorem zQ.keep {w w':World} {v:Value} {D:DF} (h:zQ w v D) (hk:dQ w w'):zQ w' v D:=fun X hX=>h X (hk.trans hX)
theorem Mem.Own.xC {α:Type} {f:α→Value} {w X:World} {base:Nat} {e:TypeId} {v:Value} {l:List α} (h:Mem.Own f w base e v l) (hX:dQ w X) (hne:e≠166):Mem.Own f X base e v l:=by
 refine ⟨h.1,?_⟩;rcases h.2 with hn | ⟨g,cap,cur,rfl,hbg,hc,rest⟩
 ·exact .inl hn
 ·exact .inr ⟨g,cap,cur,rfl,hbg,(hX.blk g (jg.1 hc).1 (fun C k e=>by rw [hc] at e;injection e with e;injection e with _ e;exact hne e)).trans hc,rest⟩
theorem aT.xC {α:Type} {K:Nat} {enc:α→List OC} {w X:World} {base:Nat} {e:TypeId} {v:Value} {l:List α} (h:aT K enc w base e v l) (hX:dQ w X) (hne:e≠166):aT K enc X base e v l:=by
 refine ⟨h.1,?_⟩;rcases h.2 with hn | ⟨g,cap,cur,rfl,hbg,hc,rest⟩
 ·exact .inl hn
 ·exact .inr ⟨g,cap,cur,rfl,hbg,(hX.blk g (jg.1 hc).1 (fun C k e=>by rw [hc] at e;injection e with e;injection e with _ e;exact hne e)).trans hc,rest⟩
theorem Mem.Row.xC {α:Type} {f:α→Value} {w X:World} {b:Nat} {e:TypeId} {l:List α} (h:Row f w b e l) (hX:dQ w X) (hne:e≠166):Row f X b e l:=by
 unfold Row at *;exact (hX.blk b (jg.1 h).1 (fun C k e=>by rw [h] at e;injection e with e;injection e with _ e;exact hne e)).trans h
end
section
open Go Go.RowKit Mem
theorem K4 (w:World) (C:Array Value) (T:TB) (hC:kL w C T) (hT:T.Ok):
  Calls Tryz.prog 177 #[.agg C] w fun e w'=>∃v,e= .returned v∧zQ w' v T.canon∧Below w.heap.size w w':=by
 have HC:=af hC;have HT:=af hT;obtain ⟨⟨vn,jL⟩,⟨va,hva⟩,lq,h1,h2,h3⟩:=hC;obtain ⟨pnn,knn,rfl⟩:=h1.slice;obtain ⟨paa,kaa,rfl⟩:=h2.slice;have HN:=af h1;have HA:=af h2;obtain ⟨nn,TE⟩:∃n,Hid (T.nx.length=n):=⟨_,af rfl⟩
 have xB:T.ac.length=nn:=by rw [← TE.out];exact hT.ac
 rw [xB] at HA lq;rw [TE.out] at HN lq;have Han:=af xB;clear xB;obtain ⟨L,HL⟩:∃L,Hid (bC T ⟨.slice pnn nn knn,jL⟩ ⟨.slice paa nn kaa,hva⟩=L):=⟨_,af rfl⟩
 have QI:L.length=259:=by rw [← HL.out];exact aW _ _ h3
 have x9:bU Tryz.prog 166 L.length:=by rw [QI];exact jd
 rw [HL.out] at lq;clear h1 h2 hT QI;have hT0:Row oV (w.alloc (.cells C 166)) w.heap.size 166 L:=Row.new _ _ (by rw [lq]);have HCe:=af lq;clear lq;go_enter Tryz.func177,Tryz.ntmps177;go_upto_region 1 with (fail);have hB0:Below w.heap.size w ((w.alloc (.cells C 166)).alloc (.cells #[.slice none 0 0, .slice none 0 0, .slice none 0 0] 79)):=((au _ _).alloc (ah _) _).alloc (by simp) _;have hT1:=hT0.alloc (.cells #[.slice none 0 0, .slice none 0 0, .slice none 0 0] 79)
 have iJ:Row oV ((w.alloc (.cells C 166)).alloc (.cells #[.slice none 0 0, .slice none 0 0, .slice none 0 0] 79)) (w.heap.size+1) 79 [on,on,on]:=by
  have h:=Row.new (f:=oV) (w.alloc (.cells C 166)) (t:=79) (l:=[on,on,on]) _ rfl;rw [bR] at h;exact h
 have hS1:((w.alloc (.cells C 166)).alloc (.cells #[.slice none 0 0, .slice none 0 0, .slice none 0 0] 79)).heap.size=w.heap.size+2:=by simp
 generalize ((w.alloc (.cells C 166)).alloc (.cells #[.slice none 0 0, .slice none 0 0, .slice none 0 0] 79))=W at hB0 hT1 iJ hS1 ⊢;clear hT0;obtain ⟨tb,dF⟩:∃tb,Hid (w.heap.size=tb):=⟨_,af rfl⟩
 rw [dF.out] at hB0 hT1 iJ hS1 ⊢;go_wp2_with fail;refine aH (S:=fun X=>Below W.heap.size W X) 8 rfl (by kernel_rfl) (au _ _).drew fun hS=> ?_;refine tk 0 18 (.agg C) hS ?_ rfl (aA (f:=oV) (l:=L) x9 (.tmp 1) rfl tb 0 rfl (fun X h=>(hT1.below h hT1.lt).at) HCe.out rfl);refine tk 1 19 (.agg C) hS ?_ rfl (aA (f:=oV) (l:=L) x9 (.tmp 1) rfl tb 0 rfl (fun X h=>(hT1.below h hT1.lt).at) HCe.out rfl);refine iZ 2 (fun K' hK=> ?_);refine cD 20 228 #[.agg C] ?_;refine (Yd _ C T (HC.out.below (by rw [dF.out];exact hB0.drew)) HT.out).mono ?_;rintro e Wa ⟨pl,cl,rfl,hOl,hBl⟩;have hS2:=hS.trans (hBl.mono hS.size);refine ⟨_,rfl,hK.out _ _ hS2 fun _=> ?_⟩;clear hK hS;simp only [sA,sB,sC];refine iZ 3 (fun K' hK=> ?_);refine cD 21 227 #[.agg C, .slice pl T.reach.length cl] ?_;refine (aaj Wa C T (HC.out.below (by rw [dF.out];exact hB0.trans (hS2.mono (by omega)))) HT.out _ T.reach hOl.rd HT.out.reach).mono ?_;rintro e Wb ⟨p1,c1,p2,c2,rfl,mE,hO2,hBb⟩;have eP:=hS2.trans (hBb.mono hS2.size);refine ⟨_,rfl,hK.out _ _ eP fun _=> ?_⟩;clear hK hBl;obtain ⟨BR,Zv⟩:∃p,Hid (T.refine T.reach=p):=⟨_,af rfl⟩
 rw [Zv.out] at mE hO2 ⊢;simp only [sA,sB,sC];refine tk 4 17 (.tuple #[.slice p1 BR.1.length c1, .slice p2 BR.2.length c2]) eP ?_;refine tk 5 22 (.slice p1 BR.1.length c1) eP ?_;refine tk 6 23 (.slice p2 BR.2.length c2) eP ?_;refine tk 7 3 (.slice p1 BR.1.length c1) eP ?_;refine aP (by kernel_rfl) ?_;simp only [List.drop];replace mE:=mE.mono (show tb+2≤Wa.heap.size by have:=hS2.size;omega);replace hO2:=hO2.mono (show tb+2≤Wa.heap.size by have:=hS2.size;omega);clear hBb hS2 hOl;have uW:=hT1.below eP hT1.lt;have Fq:=iJ.below eP iJ.lt;have hB3:=hB0.trans (eP.mono (by omega));have hCb:=HC.out.below (by rw [dF.out];exact hB3);have JX:Uo T.nx.length T.reach BR:=by rw [← Zv.out];exact T.Lv HT.out.reach
 have hsz:tb+2≤Wb.heap.size:=by have:=eP.size;omega
 clear eP hT1 iJ hB0
 go_upto_region 3 with (first
  | ((with_reducible refine zL uW.at x9 HCe.out ?_))
  | (go_at_call 229;refine (adr Wb C T hCb HT.out _ _ BR.1 BR.2 T.reach mE.rd hO2.rd HT.out.reach JX).mono ?_;rintro e Wc ⟨q1,d1,q2,d2,rfl,hMc,hMk,jR⟩))
 have hAC:bU Tryz.prog 79 3:=bQ;obtain ⟨M,HM⟩:∃M,Hid (T.merge (BR.1,BR.2)=M):=⟨_,af rfl⟩
 have hMo:M.Ok T.cells 256:=by rw [← HM.out];exact mD HT.out _ _ 256 (ah _)
 rw [HM.out] at hMc hMk ⊢;obtain ⟨b,aG⟩:=BR;simp only at mE hO2 JX HM ⊢;have hrB:=mE.rd.below jR;have hrR:=hO2.rd.below jR;have hrC:=hMc.rd;have hrK:=hMk.rd eH;have ZT:=uW.below jR uW.lt;have JH:=Fq.below jR Fq.lt;have hB4:=hB3.trans (jR.mono (by omega));have aga:tb+2≤Wc.heap.size:=aL hsz jR.size;have HMK:=af hMk;have hsz2:=af hsz;clear mE hO2 hMc hMk jR uW Fq hB3 hsz hCb;obtain ⟨R,HR⟩:∃n,Hid (aG.length=n):=⟨_,af rfl⟩
 obtain ⟨n,Hn⟩:∃n,Hid (b.length=n):=⟨_,af rfl⟩
 obtain ⟨m,Hm⟩:∃n,Hid (M.cells.length=n):=⟨_,af rfl⟩
 obtain ⟨mc,Hmc⟩:∃n,Hid (M.cls.length=n):=⟨_,af rfl⟩
 have hRn:R≤65535:=by rw [← HR.out];have h1:=JX.rl;have h2:=HT.out.reach.len;have h3:=HT.out.nn;simp only at h1;omega
 have hn1:1≤n:=by rw [← Hn.out];have h1:=JX.bl;have h2:=HT.out.n1;simp only at h1;omega
 have ahi:m≤256:=by rw [← Hm.out,hMo.cl];exact hMo.le
 have hb0:b.getD 0 0<R:=by rw [← HR.out];exact JX.bb _ (aO _ 0 0 (by rw [Hn.out];exact hn1))
 rw [Hn.out] at hrB ⊢;rw [HR.out] at hrR ⊢;rw [Hm.out] at hrC ⊢;rw [Hmc.out] at hrK HMK ⊢;have TC:=af hMo;have SC:=af JX;have HRC:=af hrC;have HRR:=af hrR;have HRK:=af hrK;clear hMo JX hrC hrR hrK;obtain ⟨B,HB⟩:∃B,Hid (Wc.heap.size=B):=⟨_,af rfl⟩
 obtain ⟨bb,bo,rfl,hcb⟩:=iT hrB 0 hn1;have HRB:=af hrB;clear hrB;have r7:Row oV (Wc.alloc (.cells #[.slice none 0 0, .slice none 0 0, .slice none 0 0] 79)) Wc.heap.size 79 [on,on,on]:=Row.new _ _ rfl;have hBa:Below Wc.heap.size Wc (Wc.alloc (.cells #[.slice none 0 0, .slice none 0 0, .slice none 0 0] 79)):=(au _ _).alloc (ah _) _;have jy:(Wc.alloc (.cells #[.slice none 0 0, .slice none 0 0, .slice none 0 0] 79)).heap.size=Wc.heap.size+1:=bR _ _;go_upto_region 4 with ((with_reducible refine zS (l':=[⟨.slice q2 mc d2,rfl⟩,on,on]) r7 bQ ?_);(intro W6 hs6 dw gP));have gH:=hBa.grown dw (by omega) (fun k e=>by injection e with e;omega);rw [jy] at gP;clear r7 hBa jy dw;have hmk:=tZ W6 R (by omega);obtain ⟨MB,nM⟩:∃C,Hid (C=((List.replicate R 0).map nV).toArray):=⟨_,af rfl⟩
 rw [← nM.out] at hmk
 have hpl:Row zV (W6.alloc (.cells MB 3)) W6.heap.size 3 (List.replicate R 0):=by
  rw [nM.out];refine Row.new _ _ ?_;simp [nV,zV]
 have hs7:=hs6.alloc (.cells MB 3);have gU:=gH.alloc (by omega) (.cells MB 3);have vZ:(W6.alloc (.cells MB 3)).heap.size=Wc.heap.size+2:=by rw [bR,gP]
 rw [gP] at hpl;go_upto_region 5 with (fail);generalize (W6.alloc (.cells MB 3))=W7 at hpl hs7 gU vZ ⊢;clear hmk nM hs6 gH gP;clear W6 MB;have cb:=hcb W7 gU;rw [x8] at cb;obtain ⟨b0,Hb0⟩:∃n,Hid (b.getD 0 0=n):=⟨_,af rfl⟩
 rw [Hb0.out] at cb hb0;rw [HB.out] at hpl hs7 gU vZ aga ⊢;have hor:Row nV (W7.alloc (.cells #[.int .i64 (b0:Int)] 3)) W7.heap.size 3 [b0]:=Row.new _ _ rfl;rw [vZ] at hor;have hor2:=mJ hor (ah _) (by unfold maxLen;simp);have ZW:=hpl.alloc (.cells #[.int .i64 (b0:Int)] 3);have hs8:=hs7.alloc (.cells #[.int .i64 (b0:Int)] 3);have jC:=gU.alloc (by omega) (.cells #[.int .i64 (b0:Int)] 3);have hz8:(W7.alloc (.cells #[.int .i64 (b0:Int)] 3)).heap.size=B+3:=by rw [bR,vZ]
 go_upto_region 6 with (fail);generalize (W7.alloc (.cells #[.int .i64 (b0:Int)] 3))=W8 at hor hor2 ZW hs8 jC hz8 ⊢
 have gY:jP Wc W8 B (B+2) ⟨.slice q2 mc d2,rfl⟩ ⟨[b0],List.replicate R 0,[]⟩ [] [] (some ⟨B+2,0,none⟩) 1 none 0 none 0 []:=
  ⟨jC,hs8,ZW,hor2,Own.nil _ _ _,F2.nil,Own.nil _ _ _,by omega,by omega⟩
 have XZ:Hid (∀X,Below B Wc X→X.cell? ⟨bb,bo,none⟩=some (.int .i64 (b0:Int))):=af (by
  intro X hX
  rw [← HB.out] at hX
  have h:=hcb X hX
  rwa [x8,Hb0.out] at h)
 have HTR:Hid (qP Wc tb T ⟨.slice pnn nn knn,jL⟩ ⟨.slice paa nn kaa,hva⟩):=af ⟨by rw [HL.out];exact ZT,h3⟩
 have HGH:Hid (T.canon=⟨M.cls,(qJ T b aG M.cells (R - 0) 0 (rT b aG)).nx,(qJ T b aG M.cells (R - 0) 0 (rT b aG)).ac⟩):=af (by
  unfold TB.canon
  rw [Zv.out,HM.out]
  show I1 T (b,aG) M=_
  unfold I1
  simp only [HR.out,Nat.sub_zero])
 have Htw:Hid (∀X,Below B Wc X→Below w.heap.size w X):=af fun X hX=>by rw [dF.out];exact hB4.trans (hX.mono (by omega))
 have aep:=JH.lt;rw [HB.out] at aep;have HR4:=af JH;clear hpl hs7 gU vZ hor hor2 ZW hs8 jC hz8 cb hcb JH ZT hB4;go_wp2_with fail
 go_loopw [42] (fun s42 wr=>∃k:Nat,k≤R∧s42= .int .i64 k∧jP Wc wr B (B+2) ⟨.slice q2 mc d2,rfl⟩ ⟨[b0],List.replicate k (-1)++List.replicate (R - k) 0,[]⟩ [] [] (some ⟨B+2,0,none⟩) 1 none 0 none 0 []) (fun s42 _=>R - (intOf s42).toNat)
 case atStart=>exact ⟨0,by omega,rfl,by simpa using gY⟩
 case round=>
  clear gY;obtain ⟨k,hk,rfl,gY⟩:=hrel;by_cases hlt:k<R
  ·have hq:(k:Int)<(R:Int):=by omega
   have hlen:(List.replicate k (-1:Int)++List.replicate (R - k) 0).length=R:=by simp;omega
   have co:=mZ gY.place k (by rw [hlen];exact hlt);have fo:=gY.place.frozen k;have Rf:=gY.FH k (-1)
   have hset:(List.replicate k (-1:Int)++List.replicate (R - k) 0).set k (-1)=List.replicate (k+1) (-1)++List.replicate (R - (k+1)) 0:=by
    rw [show R - k=(R - (k+1))+1 by omega,qc0 (n:=R - (k+1)),H9 _ _ (by simp),Tw,Fu,yh,qcS (n:=k),ze];rfl
   simp only [hset] at Rf;clear gY hset hlen;go_wp2_with fail
   go_roundw
   case rel=>exact ⟨k+1,by omega,by go_num,Rf⟩
   case measure=>simp [intOf];omega
  ·obtain rfl:R=k:=by omega
   rw [Fu,qcH,Cm] at gY;have cb:=XZ.out wr gY.fH;obtain ⟨v0,co⟩:∃v,wr.cell? ⟨B+1,b0,none⟩=some (.int .i64 v):=⟨_,mZ gY.place b0 (by simpa using hb0)⟩
   have fo:=gY.place.frozen b0;have ahD:(b0:Int)<(R:Int):=by omega
   have Rf:jP Wc (wr.setCell ⟨B+1,b0,none⟩ (.int .i64 0)) B (B+2) ⟨.slice q2 mc d2,rfl⟩ (rT b aG).st (rT b aG).nx (rT b aG).ac (some ⟨B+2,0,none⟩) 1 none 0 none 0 []:=by
    have h:=gY.FH b0 0;unfold rT;rw [Hb0.out,HR.out];exact h
   have adN:Hid ((rT b aG).Ok R m 0):=af (by have h:=Vx (block:=b) (aG:=aG) (m:=m) (by rw [Hb0.out,HR.out];exact hb0);rwa [HR.out] at h);have hol:(rT b aG).st.ord.length=1:=rfl;have Hol:=af hol;clear gY hol;generalize UX:rT b aG=a0 at *;have HA0:=af UX;clear UX;go_wp2_with fail
   go_loopw [9,11] (fun s9 s11 wr=>∃(i:Nat) (a:CA) (po:Option Addr) (co:Nat) (pn:Option Addr) (cn:Nat) (pa:Option Addr) (ca:Nat) (us:List OC) (N:Nat),s9= .slice po a.st.ord.length co∧s11= .int .i64 i∧Hid (qJ T b aG M.cells (R - 0) 0 a0=qJ T b aG M.cells (R - i) i a)∧Hid (a.Ok R m i)∧jP Wc wr B N ⟨.slice q2 mc d2,rfl⟩ a.st a.nx a.ac po co pn cn pa ca us) (fun _ s11 _=>R - (intOf s11).toNat)
   case atStart=>exact ⟨0,a0,some ⟨B+2,0,none⟩,1,none,0,none,0,[],B+2,by rw [Hol.out],rfl,af rfl,adN,Rf⟩
   case round=>
    clear Rf adN Hol cb co fo;obtain ⟨i,a,po,co,pn,cn,pa,ca,us,N,rfl,rfl,HG,jQ,gY⟩:=hrel;have hoR:=jQ.out.st.o.len;have hil:=jQ.out.il;by_cases hlt:i<a.st.ord.length
    ·have hq:(i:Int)<(a.st.ord.length:Int):=by omega
     obtain ⟨og,rfl,af6,afH,_,afC,agS,_⟩:=gY.ord.block (by omega);have co1:=Sq gY.ord i hlt;have hoi:a.st.ord.getD i 0<R:=jQ.out.st.o.lt _ (aO _ _ _ hlt);obtain ⟨o,Ho⟩:∃o,Hid (a.st.ord.getD i 0=o):=⟨_,af rfl⟩
     rw [Ho.out] at co1 hoi;have ahJ:(o:Int)<(R:Int):=by omega
     obtain ⟨rb,ro,rfl,hcs⟩:=iT HRR.out o hoi;have cs:=hcs wr (by rw [HB.out];exact gY.fH);obtain ⟨s,Hs⟩:∃s,Hid (aG.getD o 0=s):=⟨_,af rfl⟩
     rw [Hs.out] at cs
     have hs:s<nn:=by
      rw [← TE.out,← Hs.out];exact HT.out.reach.lt _ (SC.out.rm _ (aO aG o 0 (by rw [HR.out];exact hoi)))
     obtain ⟨MB,nM⟩:∃C,Hid (C=((List.replicate m 0).map nV).toArray):=⟨_,af rfl⟩
     have hmk:∀w:World,(Instr.makeSlice 92 (.int .i64 (m:Int)) (.int .i64 (m:Int))).run Tryz.prog w= .ok (.slice (some ⟨w.heap.size,0,none⟩) m m) (w.alloc (.cells MB 3)):=fun w=>by rw [nM.out];exact tZ w m (by omega)
     have hrw:Row nV (wr.alloc (.cells MB 3)) wr.heap.size 3 (List.replicate m 0):=by
      rw [nM.out];exact Row.new _ _ rfl
     have xW:=(gY.mono gY.nN (ah _)).alloc (.cells MB 3);have hz1:(wr.alloc (.cells MB 3)).heap.size=wr.heap.size+1:=bR _ _;have hgo:(Value.slice (some ⟨og,0,none⟩) a.st.ord.length co).ownBlock≠some wr.heap.size:=fun e=>by have e':some og=some wr.heap.size:=e;injection e' with e';omega
     have hgn:(Value.slice pn us.length cn).ownBlock≠some wr.heap.size:=fun e=>by have:=(gY.next.lt _ e).2;omega
     have hga:(Value.slice pa a.ac.length ca).ownBlock≠some wr.heap.size:=fun e=>by have:=(gY.acc.lt _ e).2;omega
     have hsz1:=gY.sz;have hii:(i:Int)≤65535:=by omega
     go_upto_region 17 with (fail);obtain ⟨g1,Hg1⟩:∃g,Hid (wr.heap.size=g):=⟨_,af rfl⟩
     rw [Hg1.out] at hrw xW hz1 hgo hgn hga hsz1 ⊢;generalize (wr.alloc (.cells MB 3))=W1 at hrw xW hz1 ⊢;have HGN:=af hgn;have HGA:=af hga;clear hmk nM gY co1 cs hcs agS af6 afH afC hgn hga;have Jv:Hid ((M.cells.take 0).foldl (fun st c=>jf st (jM T.nx b s c)) {a.st with row:=[]}={a.st with row:=[]}):=af rfl;have ad9:jP Wc W1 B g1 ⟨.slice q2 mc d2,rfl⟩ {a.st with row:=[]} a.nx a.ac (some ⟨og,0,none⟩) co pn cn pa ca us:=⟨xW.fH,xW.Dg,xW.place,xW.ord,xW.next,xW.rows,xW.acc,xW.sz,xW.nN⟩
     have aa7:({a.st with row:=[]}:CS).ord.length=a.st.ord.length:=rfl;have afi:=af aa7;have aaL:Row nV W1 g1 3 (({a.st with row:=[]}:CS).row++List.replicate (m - 0) 0):=by simpa using hrw
     have aeW:(Value.slice (some ⟨og,0,none⟩) ({a.st with row:=[]}:CS).ord.length co).ownBlock≠some g1:=hgo;clear aa7 xW hrw hgo;generalize hst:({a.st with row:=[]}:CS)=st0 at *;have YC:=af hst;clear hst;go_wp2_with fail
     go_loopw [9,72] (fun s9 s72 wq=>∃(j:Nat) (st:CS) (po:Option Addr) (co:Nat),j≤m∧s72= .int .i64 j∧s9= .slice po st.ord.length co∧Hid ((M.cells.take j).foldl (fun st c=>jf st (jM T.nx b s c)) st0=st)∧jP Wc wq B g1 ⟨.slice q2 mc d2,rfl⟩ st a.nx a.ac po co pn cn pa ca us∧Row nV wq g1 3 (st.row++List.replicate (m - j) 0)∧(Value.slice po st.ord.length co).ownBlock≠some g1∧g1+1≤wq.heap.size) (fun _ s72 _=>m - (intOf s72).toNat)
     case atStart=>exact ⟨0,st0,some ⟨og,0,none⟩,co,by omega,rfl,by rw [afi.out],Jv,ad9,aaL,aeW,by omega⟩
     case round=>
      clear ad9 aaL aeW hz1 Jv;obtain ⟨j,st,po,co,hj,rfl,rfl,HST,gY,hrow,hog,hsg⟩:=hrel;have hok:=BI jQ.out.st (n:=R) (nx:=T.nx) (block:=b) (fun s c=>by have h:=Dq (nx:=T.nx) SC.out s c;simp only [HR.out] at h;exact h) s M.cells j (by rw [Hm.out];exact hj);rw [YC.out,HST.out] at hok;obtain ⟨hok1,hrl,hol⟩:=hok;have hsR:=hok1.o.len;by_cases hjl:j<m
      ·have hq2:(j:Int)<(m:Int):=by omega
       have hBel:Below Wc.heap.size Wc wr:=by rw [HB.out];exact gY.fH
       have hW1:=Htw.out wr gY.fH;obtain ⟨cb1,co1,rfl,hcc⟩:=iT HRC.out j hjl;have cc:=hcc wr hBel;obtain ⟨c,Hc⟩:∃c,Hid (M.cells.getD j 0=c):=⟨_,af rfl⟩
       rw [Hc.out] at cc;have hc:c<T.cells:=by rw [← Hc.out];exact TC.out.cb _ (aO _ _ _ (by rw [Hm.out];exact hjl))
       obtain ⟨nb,no,rq,rd,rfl,hnn,hnb,hcr,hrw⟩:=sF HN.out s (by rw [TE.out];exact hs);have cr:wr.cell? ⟨nb,no+s,none⟩=some (.slice rq (T.nx.getD s []).length rd):=(hW1.cell (p:=⟨nb,no+s,none⟩) hnb).trans hcr;have sH:wr.cell? ⟨tb,257,none⟩=some (.slice (some ⟨nb,no,none⟩) nn knn):=(gY.fH.cell (p:=⟨tb,257,none⟩) (by show tb<B;omega)).trans HTR.out.nx;have hrl2:(T.nx.getD s []).length=T.cells:=HT.out.rw _ (aO _ _ _ (by rw [TE.out];exact hs));have BS:Hid (∀t∈T.nx.getD s [],t<nn):=af (by rw [← TE.out];exact uK HT.out.rb _);have uR:Hid (jM T.nx b s c=b.getD ((T.nx.getD s []).getD c 0) 0):=af rfl;obtain ⟨row,xU⟩:∃r,Hid (T.nx.getD s []=r):=⟨_,af rfl⟩
       rw [xU.out] at hrw BS hrl2 cr uR;have hcl:c<row.length:=by omega
       obtain ⟨rn,Mm⟩:∃r,Hid (row.length=r):=⟨_,af rfl⟩
       rw [Mm.out] at cr hrw hcl;obtain ⟨Xv,ZA,rfl,hct⟩:=iT hrw c hcl;have ct:=hct wr hW1;obtain ⟨t,Ht⟩:∃t,Hid (row.getD c 0=t):=⟨_,af rfl⟩
       have ht:t<nn:=by rw [← Ht.out];exact BS.out _ (aO _ _ _ (by rw [Mm.out];exact hcl))
       rw [Ht.out] at ct uR;have aho:n=nn:=by rw [← Hn.out,← TE.out];exact SC.out.bl
       have htn:t<n:=by omega
       obtain ⟨bb2,bo2,e2,hcb⟩:=iT HRB.out t htn;injection e2 with e2
       injection e2 with e3 e4 _
       subst e3 e4;have cb:=hcb wr hBel;obtain ⟨q,Hq⟩:∃q,Hid (b.getD t 0=q):=⟨_,af rfl⟩
       rw [Hq.out] at cb uR;have hqR:q<R:=by rw [← uR.out,← HR.out];exact Dq (nx:=T.nx) SC.out s c
       have ae2:Hid ((M.cells.take (j+1)).foldl (fun st c=>jf st (jM T.nx b s c)) st0=jf st q):=af (by
        have hjm:j<M.cells.length:=by rw [Hm.out];exact hjl
        have e:M.cells[j]=c:=by rw [← Hc.out,dD,bM hjm];rfl
        rw [dG _ _ _ _ hjm,HST.out,e,uR.out])
       have hpl:q<st.place.length:=by rw [hok1.pl];exact hqR
       have cp:=mZ gY.place q hpl;obtain ⟨pv,Hpv⟩:∃v,Hid (st.place.getD q 0=v):=⟨_,af rfl⟩
       rw [Hpv.out] at cp;have ahG:(q:Int)<(R:Int):=by omega
       have hsi:(s:Int)<(nn:Int):=by omega
       have hti:(t:Int)<(n:Int):=by omega
       have ahx:(c:Int)<(rn:Int):=by omega
       have hlr:(st.row++List.replicate (m - j) 0).length=m:=by rw [fq,hrl,Tw];omega
       have Fg:=af hrl;have ahw:=af hok1;clear hcc hcr hrw hct hcb hnn hnb hW1 hrl2 hcl hrl hol hok1 hBel;by_cases hneg:pv<0
       ·have fo:=gY.place.frozen q;have Qx:=gY.FH q (st.ord.length:Int);have hrow3:=hrow.grown (aI wr (B+1) q (zV (st.ord.length:Int))) (by simp;omega);have acK:=aL hsg (aI wr (B+1) q (zV (st.ord.length:Int))).size;go_upto_region 23 with (fail);have hW:∃W,Hid (wr.setCell ⟨B+1,q,none⟩ (zV (st.ord.length:Int))=W):=⟨_,af rfl⟩
        obtain ⟨W3,HW3⟩:=hW;have hW3:wr.setCell ⟨B+1,q,none⟩ (.int .i64 (st.ord.length:Int))=W3:=HW3.out;rw [HW3.out] at Qx hrow3 acK;rw [hW3];clear hW3 HW3 cp cb ct sH cr cc gY hrow fo;have ahk:st.ord.length≤65535:=by omega
        have uu:B+2≤W3.heap.size:=Qx.sz;have hO3:=Qx.ord;go_upto_region 24 with (at_builtin;(with_reducible refine SF Fy (.tmp 98) (.tmp 100) ?_ ?_ uQ ?_ hO3 q _ ?_ _ ?_ ?_ ?_ ?_ (st.ord++[q]) ?_ ?_);rfl;rfl;rfl;rfl;rfl;(show (st.ord.length+1) * 8≤_;omega);(show st.ord.length+1≤_;omega);(exact uu);rfl;(intro p8 c8 W8 mQ iC hw8));have acV:=Qx.order mQ iC hw8
        have Z9:(Value.slice p8 (st.ord++[q]).length c8).ownBlock≠some g1:=fun e=>by
         rcases hw8 _ e with h | h
         ·exact hog h
         ·omega
        have Oo:=(hrow3.alloc (.cells #[.int .i64 (q:Int)] 3)).grown iC (fun e=>hog e.symm);have ael:g1+1≤W8.heap.size:=aL (aL acK (by rw [bR];omega)) iC.size
        have cp:W8.cell? ⟨B+1,q,none⟩=some (.int .i64 (st.ord.length:Int)):=by
         have h:=mZ acV.place q (by rw [ru];exact hpl);rw [ig _ _ _ _ _ hpl,aC rfl] at h;exact h
        obtain ⟨v1,cj⟩:∃v,W8.cell? ⟨g1,j,none⟩=some (.int .i64 v):=⟨_,fu Oo j (by rw [hlr];exact hjl)⟩
        have fj:=Oo.frozen j;have Bf:=Oo.set j st.ord.length;rw [zo Fg.out hjl] at Bf;have Ql:=acV.row g1 j (.int .i64 (st.ord.length:Int)) (ah _) hsz1 Z9 HGN.out HGA.out;have abQ:=aL ael (aI W8 g1 j (.int .i64 (st.ord.length:Int))).size;have hlo:(st.ord++[q]).length=st.ord.length+1:=by simp
        have Hlo:=af hlo;have af0:=af hneg
        have Ol:Hid (jP Wc (W8.setCell ⟨g1,j,none⟩ (.int .i64 (st.ord.length:Int))) B g1 ⟨.slice q2 mc d2,rfl⟩ (jf st q) a.nx a.ac p8 c8 pn cn pa ca us∧Row nV (W8.setCell ⟨g1,j,none⟩ (.int .i64 (st.ord.length:Int))) g1 3 ((jf st q).row++List.replicate (m - (j+1)) 0)∧(jf st q).ord.length=st.ord.length+1∧(Value.slice p8 (jf st q).ord.length c8).ownBlock≠some g1):=af (by
         have e:jf st q=⟨st.ord++[q],st.place.set q (st.ord.length:Nat),st.row++[st.ord.length]⟩:=by unfold jf;rw [Hpv.out,aC af0.out]
         rw [e]
         exact ⟨Ql.cast rfl rfl,Bf,hlo,Z9⟩)
        clear Qx hrow3 acK hO3 iC hw8 acV Z9 Oo ael Bf Ql hlo mQ hlr hneg hpl hog;go_wp2_with fail
        go_roundw
        case rel=>exact ⟨_,_,_,_,_,⟨j+1,by omega,by go_num,jf st q,p8,c8,by rw [Ol.out.2.2.1],ae2,Ol.out.1,Ol.out.2.1,Ol.out.2.2.2,by simpa using abQ⟩,rfl,rfl,rfl,rfl,rfl⟩
        case measure=>simp [intOf];omega
       ·obtain ⟨v1,cj⟩:∃v,wr.cell? ⟨g1,j,none⟩=some (.int .i64 v):=⟨_,fu hrow j (by rw [hlr];exact hjl)⟩
        have fj:=hrow.frozen j;obtain ⟨pq,Hpq⟩:∃n:Nat,Hid (pv=(n:Int)):=⟨pv.toNat,af (qcZ (by omega)).symm⟩
        rw [Hpq.out] at cp;have Bf:=hrow.set j pq;rw [zo Fg.out hjl] at Bf;have Ql:=gY.row g1 j (.int .i64 (pq:Int)) (ah _) hsz1 hog HGN.out HGA.out;have abQ:=aL hsg (aI wr g1 j (.int .i64 (pq:Int))).size;have hpq:¬(pq:Int)<0:=by omega
        have hneg':¬st.place.getD q 0<0:=by rw [Hpv.out];exact hneg
        have Ol:Hid (jP Wc (wr.setCell ⟨g1,j,none⟩ (.int .i64 (pq:Int))) B g1 ⟨.slice q2 mc d2,rfl⟩ (jf st q) a.nx a.ac po co pn cn pa ca us∧Row nV (wr.setCell ⟨g1,j,none⟩ (.int .i64 (pq:Int))) g1 3 ((jf st q).row++List.replicate (m - (j+1)) 0)∧(jf st q).ord.length=st.ord.length∧(Value.slice po (jf st q).ord.length co).ownBlock≠some g1):=af (by
         have e:jf st q={st with row:=st.row++[pq]}:=by
          unfold jf;rw [aF hneg',Hpv.out,Hpq.out];rfl
         rw [e]
         exact ⟨Ql.cast rfl rfl,Bf,rfl,hog⟩)
        clear gY hrow Ql Bf hneg hneg' hlr hpl hog;go_wp2_with fail
        go_roundw
        case rel=>exact ⟨j+1,jf st q,po,co,by omega,by go_num,by rw [Ol.out.2.2.1],ae2,Ol.out.1,Ol.out.2.1,Ol.out.2.2.2,abQ⟩
        case measure=>simp [intOf];omega
      ·obtain rfl:m=j:=by omega
       rw [Fu,qcH,Cm] at hrow
       have ZQ:Hid (GM T.nx b s M.cells a.st=st):=af (by
        have h:=HST.out
        rw [qj (by rw [Hm.out];exact ah _)] at h
        unfold GM
        rw [YC.out];exact h)
       have rV:us.length=i:=by rw [l7 gY.rows];exact jQ.out.nl
       have Il:=af rV;have age:us.length≤65535:=by omega
       have c1B:wr.cell? ⟨B,1,none⟩=some (.slice pn us.length cn):=gY.Dg.cell? 1;have f1B:=gY.Dg.frozen 1;have uu:B+2≤wr.heap.size:=gY.sz;have hO3:=gY.next;obtain ⟨y,Hy⟩:∃y:OC,Hid (y.1= .slice (some ⟨g1,0,none⟩) m m):=⟨⟨.slice (some ⟨g1,0,none⟩) m m,rfl⟩,af rfl⟩
       have hyo:Value.slice (some ⟨g1,0,none⟩) m m=oV y:=Hy.out.symm;obtain ⟨vI,CF⟩:∃l,Hid (us++[y]=l):=⟨_,af rfl⟩
       have adO:vI.length=us.length+1:=by rw [← CF.out];simp
       have ahs:=af adO;have Uf:=af (gY.alloc (.cells #[.slice (some ⟨g1,0,none⟩) m m] 92)).Dg;have UU:Hid (some B≠(Value.slice pn us.length cn).ownBlock):=af (fun e=>by have:=(hO3.lt _ e.symm).1;omega);have Hyo:=af hyo;clear rV hyo adO;go_upto_region 27 with (at_builtin;(with_reducible refine eG Tx (.tmp 111) (.tmp 113) ?_ ?_ bF ?_ hO3 y _ ?_ _ ?_ ?_ ?_ ?_ vI ?_ ?_);rfl;rfl;rfl;(exact Hyo.out);rfl;(show (us.length+1) * 24≤_;omega);(show us.length+1≤_;omega);(exact uu);(exact CF.out);(intro p8 c8 W8 mQ jC iC);(have JJ:=Uf.out.grown iC UU.out);(have SE:W8.cell? ⟨B,1,none⟩=some (.slice pn us.length cn):=JJ.cell? 1);(have QJ:=JJ.frozen 1));have hrm:st.row.length=m:=hrl
       have Aq:jP Wc (W8.setCell ⟨B,1,none⟩ (.slice p8 vI.length c8)) B W8.heap.size ⟨.slice q2 mc d2,rfl⟩ st (a.nx++[st.row]) a.ac po co p8 c8 pa ca vI:=by
        rw [← CF.out] at mQ ⊢;have hgs:=iC.size;rw [bR] at hgs;exact gY.CG hrow hsz1 hog (by omega) (by rw [hrm];exact Hy.out) mQ iC (by omega) (by omega) (ah _)
       generalize (W8.setCell ⟨B,1,none⟩ (.slice p8 vI.length c8))=ni at Aq ⊢;obtain ⟨N2,o9⟩:∃N2,Hid (W8.heap.size=N2):=⟨_,af rfl⟩
       rw [o9.out] at Aq;clear JJ SE QJ mQ iC jC hO3 c1B f1B uu gY hrow hrl hrm;have c2B:ni.cell? ⟨B,2,none⟩=some (.slice pa a.ac.length ca):=Aq.Dg.cell? 2;have Nz:ni.cell? ⟨tb,258,none⟩=some (.slice paa nn kaa):=(Aq.fH.cell (p:=⟨tb,258,none⟩) (by show tb<B;omega)).trans HTR.out.ac;obtain ⟨ab,ao,rfl,hca⟩:=uI HA.out s hs;have YK:=hca ni (Htw.out _ Aq.fH);obtain ⟨bz,Hbz⟩:∃z,Hid (T.ac.getD s false=z):=⟨_,af rfl⟩
       rw [Hbz.out] at YK;have M0:=Aq.acc;have hal:=jQ.out.al;have aeG:(a.ac.length+1) * 1≤140737488355328:=by omega
       have afw:a.ac.length+1≤140737488355328:=by omega
       have uu:B+2≤ni.heap.size:=Aq.sz;obtain ⟨Ef,yz⟩:∃l,Hid (a.ac++[bz]=l):=⟨_,af rfl⟩
       have VO:=af (Aq.alloc (.cells #[.bool bz] 4)).Dg;have HAB:Hid (some B≠(Value.slice pa a.ac.length ca).ownBlock):=af (fun e=>by have:=(M0.lt _ e.symm).1;omega);have hsi:(s:Int)<(nn:Int):=by omega
       have SH:=af hal;have afT:(ni.alloc (.cells #[.bool bz] 4)).cell? ⟨B,2,none⟩=some (.slice pa a.ac.length ca):=VO.out.cell? 2;clear hal hca Uf UU;go_wp2_with fail;go_region_law ((go_loud (refine BM (w:=ni) (f:=Value.bool) (base:=B+2) (l:=a.ac) (v:= .slice pa a.ac.length ca) Qc (.tmp 117) (.tmp 123) 35 ?_ ?_ rfl OJ ?_ M0 bz (.bool bz) rfl 4 ?_ aeG afw uu Ef yz.out ?_));rfl;rfl;rfl;rfl;(intro p9 c9 w9 DY dB hW9);(have Ej:=VO.out.grown dB HAB.out);(have abZ:w9.cell? ⟨B,2,none⟩=some (.slice pa a.ac.length ca):=Ej.cell? 2);(have abW:=Ej.frozen 2))
       all_goals
        have aey:Hid (jP Wc (w9.setCell ⟨B,2,none⟩ (.slice p9 Ef.length c9)) B N2 ⟨.slice q2 mc d2,rfl⟩ (oI T b aG M.cells a i).st (oI T b aG M.cells a i).nx (oI T b aG M.cells a i).ac po co p8 c8 p9 c9 vI∧(oI T b aG M.cells a i).st.ord=st.ord):=af (by
         have e:oI T b aG M.cells a i=⟨st,a.nx++[st.row],a.ac++[bz]⟩:=by
          unfold oI
          simp only [Ho.out,Hs.out,ZQ.out,Hbz.out]
         rw [e]
         rw [← yz.out] at DY ⊢
         exact ⟨Aq.Dn DY dB,rfl⟩)
        have HG1:=af (HG.out.trans (TM T b aG M.cells R i a hlt hoR))
        have afW:Hid ((oI T b aG M.cells a i).Ok R m (i+1)):=af (by
         have h:=jQ.out
         rw [← Hm.out] at h ⊢
         exact NR h (fun s c=>by have h:=Dq (nx:=T.nx) SC.out s c;simp only [HR.out] at h;exact h) hlt)
        clear DY dB hW9 Ej abZ abW afT YK Nz c2B Aq;go_wp2
        go_roundw
        case rel=>exact ⟨i+1,oI T b aG M.cells a i,po,co,p8,c8,p9,c9,vI,N2,by rw [aey.out.2],by go_num,HG1,afW,aey.out.1⟩
        case measure=>simp [intOf];omega
    ·have hq:¬(i:Int)<(a.st.ord.length:Int):=by omega
     have HE:Hid (T.canon=⟨M.cls,a.nx,a.ac⟩):=af (by rw [HGH.out,HG.out,Ya _ _ _ _ _ _ _ (by omega)]);have hdf:=gY.Dg;have hWw:=Htw.out _ gY.fH;have hR9:=HR4.out.below gY.fH aep;have hbelW:Below Wc.heap.size Wc wr:=by rw [HB.out];exact gY.fH
     have rV:us.length=a.nx.length:=l7 gY.rows;have Sm:=af gY;have Il:=af rV;clear gY rV;obtain ⟨L3,Dz⟩:∃l:List OC,Hid (l=[⟨.slice q2 mc d2,rfl⟩,⟨.slice pn us.length cn,rfl⟩,⟨.slice pa a.ac.length ca,rfl⟩]):=⟨_,af rfl⟩
     rw [← Dz.out] at hdf;obtain ⟨C3,R6⟩:∃C,Hid (C=(L3.map oV).toArray):=⟨_,af rfl⟩
     have hL3:L3.length=3:=by rw [Dz.out];rfl
     have hA3:bU Tryz.prog 79 L3.length:=by rw [hL3];exact bQ
     have hLz:L3.length=[on,on,on].length:=hL3
     go_wp2_with (first
      | ((with_reducible refine zL hdf.at hA3 R6.out ?_))
      | ((with_reducible refine aK (f:=oV) (l:=[on,on,on]) (l':=L3) (t:=79) (C:=C3) hA3 (.tmp 2) (.tmp 126) ?_ ?_ (tb+1) ?_ R6.out ?_ hR9 hLz bF ?_);rfl;rfl;rfl;rfl;(intro W9 iO dB tY)))
     have dV:Below w.heap.size w W9:=hWw.grown dB hWw.size (fun k e=>by injection e with e;rw [dF.out];omega);refine fJ (aR (f:=oV) (l:=L3) rfl _ hA3 (tb+1) 0 rfl iO.at) rfl ?_;have hN9:=Sm.out.next.kept dB (fun g hg e=>by have:=(Sm.out.next.lt g hg).1;injection e with e;omega);have hA9:=Sm.out.acc.kept dB (fun g hg e=>by have:=(Sm.out.acc.lt g hg).1;injection e with e;omega);have Qz:=(HMK.out.below' hbelW).grown dB (fun g hg e=>by have h1:=(HMK.out.lt g hg).1;have h2:=hsz2.out;injection e with e;omega);refine ⟨_,rfl,fun X hX=> ?_,dV⟩;rw [HE.out];replace hN9:=hN9.xC hX (by decide);replace hA9:=hA9.xC hX (by decide);replace Qz:=Qz.xC hX (by decide);refine ⟨_,_,_,by rw [Dz.out];rfl,Qz.rd eH,?_,hA9.rd⟩;rcases hN9.rd with ⟨p0,e0,e1⟩ | ⟨b1,o1,c1,e1,e2,e3,e4⟩
     ·refine .inl ⟨p0,e0,?_⟩;have rV:=Il.out;rw [e1] at rV;exact vR.1 rV.symm
     ·refine .inr ⟨b1,o1,c1,by rw [← Il.out];exact e1,by rw [← Il.out];exact e2,fun k hk=> ?_,e4⟩;have C8:k<us.length:=by rw [Il.out];exact hk
      obtain ⟨g,u1,u2,u3,_,_,u6⟩:=Iz Sm.out.rows k C8 hk;refine ⟨us[k].1,?_,?_⟩
      ·have h:=e3 k C8;rw [bM C8] at h;exact h
      ·rw [u1];exact (mJ (base:=0) ((u2.grown dB (fun e=>by injection e with e;omega)).xC hX (by decide)) (Mg _) (by unfold maxLen;show a.nx[k].length≤_;omega)).rd
theorem IV (w:World) (C:Array Value) (T:TB) (hC:kL w C T) (hT:T.Ok):
  Calls Tryz.prog 177 #[.agg C] w fun e w'=>∃v,e= .returned v∧dA w' v T.canon∧Below w.heap.size w w':=
 (K4 w C T hC hT).mono fun _ w' ⟨v,h1,h2,h3⟩=>⟨v,h1,h2 w' (dQ.refl w'),h3⟩
def fQ (w':World) (v:Value):Except Nat DF→Prop
 | .ok D=>∃u,v= .tuple #[u, .int .i64 0]∧dA w' u D
 | .error n=>v= .tuple #[.agg #[.slice none 0 0, .slice none 0 0, .slice none 0 0], .int .i64 (n:Int)]
theorem fQ.below {w w':World} {v:Value} {r:Except Nat DF} (h:fQ w v r) (hb:Below w.heap.size w w'):fQ w' v r:=by
 cases r with
 | error n=>exact h
 | ok D=>obtain ⟨u,h1,h2⟩:=h;exact ⟨u,h1,h2.below hb⟩
def bL (p1:Option Addr) (n1 k1:Nat) (p2:Option Addr) (n2 k2:Nat) (p3:Option Addr) (n3 k3:Nat):List OC:=[⟨.slice p1 n1 k1,rfl⟩,⟨.slice p2 n2 k2,rfl⟩,⟨.slice p3 n3 k3,rfl⟩]
theorem dA.parts {w:World} {v:Value} {D:DF} (h:dA w v D):∃p1 k1 p2 k2 p3 k3,v= .agg #[.slice p1 D.cls.length k1, .slice p2 D.nx.length k2, .slice p3 D.ac.length k3]:=by
 obtain ⟨vc,vn,va,rfl,h1,h2,h3⟩:=h;obtain ⟨p1,k1,rfl⟩:=h1.slice;obtain ⟨p2,k2,rfl⟩:=h2.slice;obtain ⟨p3,k3,rfl⟩:=h3.slice;exact ⟨_,_,_,_,_,_,rfl⟩
theorem JC {w:World} {b:Nat} {t:TypeId} (hr:Row oV w b t [on,on,on]) (i:Nat) (v:Value) (h:w.cell? ⟨b,i,none⟩=some v):v= .slice none 0 0:=by
 rw [hr.cell?] at h
 match i,h with
 | 0,h=>injection h with h;exact h.symm
 | 1,h=>injection h with h;exact h.symm
 | 2,h=>injection h with h;exact h.symm
 | n+3,h=>cases h
theorem M4 {α:Type} {f:α→Value} {w w':World} {v:Value} {l:List α} {b:Nat} {t:TypeId} (h:Rd f w v l) (hf:∀x,f x≠ .slice none 0 0) (hr:Row oV w b t [on,on,on]) (hg:w.grownBy w' (some b)):Rd f w' v l:=by
 rcases h with hn | ⟨g,o,cap,rfl,hc,ha,hlt⟩
 ·exact .inl hn
 ·by_cases h0:0<l.length
  ·refine .inr ⟨g,o,cap,rfl,hc,ha.grown hg hlt (fun e=> ?_),bO hlt hg.size⟩;injection e with e
   subst e;have:=ha 0 h0;rw [bM h0] at this;exact hf _ (JC hr _ _ this)
  ·exact .inr ⟨g,o,cap,rfl,hc,fun i hi=>by omega,bO hlt hg.size⟩
theorem dA.avoid {w w':World} {v:Value} {D:DF} {b:Nat} {t:TypeId} (h:dA w v D) (hD:D.Ok) (hr:Row oV w b t [on,on,on]) (hg:w.grownBy w' (some b)):dA w' v D:=by
 obtain ⟨vc,vn,va,rfl,h1,h2,h3⟩:=h;refine ⟨vc,vn,va,rfl,?_,?_,M4 h3 (fun x e=>by cases e) hr hg⟩
 ·rcases h1 with hn | ⟨g,o,cap,rfl,hc,ha,hlt⟩
  ·exact .inl hn
  ·refine .inr ⟨g,o,cap,rfl,hc,fun i hi=>(ha i hi).grown hg hlt (fun e=> ?_),bO hlt hg.size⟩;injection e with e
   subst e;have:=ha i hi 0 (by show 0<4;omega);have:=JC hr _ _ this;cases this
 ·rcases h2 with hn | ⟨g,o,cap,rfl,hc,ha,hlt⟩
  ·exact .inl hn
  ·refine .inr ⟨g,o,cap,rfl,hc,fun i hi=> ?_,bO hlt hg.size⟩;obtain ⟨u,e1,e2⟩:=ha i hi;refine ⟨u,(nU (a:=⟨g,o+i,none⟩) (hg.block g hlt (fun e=> ?_))).trans e1,M4 e2 (fun x e=>by cases e) hr hg⟩;injection e with e
   subst e;have e3:=JC hr _ _ e1;subst e3;have hl:=hD.rw _ (pJ hi);have hc1:=hD.c1;rcases e2 with ⟨_,_,e4⟩ | ⟨_,_,_,e4,_⟩
   ·rw [e4] at hl;simp at hl;omega
   ·cases e4
theorem aes (w:World) (C:Array Value) (T:TB) (hC:kL w C T) (hT:T.Ok):
  Calls Tryz.prog 187 #[.agg C] w fun e w'=>∃v,e= .returned v∧fQ w' v (lim T)∧Below w.heap.size w w':=by
 have HC:=af hC;have HT:=af hT;obtain ⟨vn,va,lq,_,_,h3⟩:=hC;obtain ⟨L,HL⟩:∃L,Hid (bC T vn va=L):=⟨_,af rfl⟩
 have QI:L.length=259:=by rw [← HL.out];exact aW _ _ h3
 have x9:bU Tryz.prog 166 L.length:=by rw [QI];exact jd
 rw [HL.out] at lq;clear hT QI h3;have hT0:Row oV (w.alloc (.cells C 166)) w.heap.size 166 L:=Row.new _ _ (by rw [lq]);have HCe:=af lq;clear lq;go_enter Tryz.func187,Tryz.ntmps187;go_upto_region 1 with (fail);have hB0:Below w.heap.size w ((w.alloc (.cells C 166)).alloc (.cells #[.slice none 0 0, .slice none 0 0, .slice none 0 0] 79)):=((au _ _).alloc (ah _) _).alloc (by simp) _;have hT1:=hT0.alloc (.cells #[.slice none 0 0, .slice none 0 0, .slice none 0 0] 79)
 have iJ:Row oV ((w.alloc (.cells C 166)).alloc (.cells #[.slice none 0 0, .slice none 0 0, .slice none 0 0] 79)) (w.heap.size+1) 79 [on,on,on]:=by
  have h:=Row.new (f:=oV) (w.alloc (.cells C 166)) (t:=79) (l:=[on,on,on]) _ rfl;rw [bR] at h;exact h
 generalize ((w.alloc (.cells C 166)).alloc (.cells #[.slice none 0 0, .slice none 0 0, .slice none 0 0] 79))=W at hB0 hT1 iJ ⊢;clear hT0;have hCW:=HC.out.below hB0;obtain ⟨tb,dF⟩:∃tb,Hid (w.heap.size=tb):=⟨_,af rfl⟩
 rw [dF.out] at hB0 hT1 iJ ⊢;obtain ⟨D,HD⟩:∃D,Hid (T.canon=D):=⟨_,af rfl⟩
 have hcan:=IV W C T hCW HT.out;rw [HD.out] at hcan;have VK:=af hcan;clear hcan hCW
 go_upto_region 2 with (first
  | ((with_reducible refine aU (f:=oV) (l:=L) (C:=C) x9 (.tmp 1) ?_ ?_ tb 0 ?_ hT1.at HCe.out ?_);rfl;rfl;rfl)
  | (go_at_call 177;refine VK.out.mono ?_;rintro e Wc ⟨v,rfl,hv,jR⟩;(obtain ⟨p1,k1,p2,k2,p3,k3,rfl⟩:=hv.parts);(have r7:Row oV (Wc.alloc (.cells #[.slice none 0 0, .slice none 0 0, .slice none 0 0] 79)) Wc.heap.size 79 [on,on,on]:=Row.new _ _ rfl);(have HV:=af hv);clear hv)
  | ((with_reducible refine aK (f:=oV) (l:=[on,on,on]) (l':=bL p1 D.cls.length k1 p2 D.nx.length k2 p3 D.ac.length k3) (t:=79) (C:= #[.slice p1 D.cls.length k1, .slice p2 D.nx.length k2, .slice p3 D.ac.length k3]) bQ (.tmp 4) (.tmp 6) ?_ ?_ Wc.heap.size ?_ ?_ ?_ r7 ?_ bF ?_);rfl;rfl;rfl;rfl;rfl;rfl;(intro W6 hs6 dw gP)))
 have hBa:=(au Wc.heap.size Wc).alloc (ah _) (.cells #[.slice none 0 0, .slice none 0 0, .slice none 0 0] 79);have jy:(Wc.alloc (.cells #[.slice none 0 0, .slice none 0 0, .slice none 0 0] 79)).heap.size=Wc.heap.size+1:=bR _ _;have hBx:=jR.trans ((hBa.grown dw (by omega) (fun k e=>by injection e with e;omega)).mono jR.size);have Fq:=iJ.below hBx iJ.lt;have hV6:=HV.out.below (hBa.grown dw (by omega) (fun k e=>by injection e with e;omega));have gH:=hB0.trans (hBx.mono (aL (by omega) (show tb+2≤W.heap.size from iJ.lt)));have hRl:=Fq.lt;have hc1:W6.cell? ⟨Wc.heap.size,1,none⟩=some (.slice p2 D.nx.length k2):=by rw [hs6.cell?];rfl
 obtain ⟨n,Hn⟩:∃n,Hid (D.nx.length=n):=⟨_,af rfl⟩
 have HL0:Hid (lim T=if n≤64 then .ok D else .error 2):=af (by unfold lim;rw [HD.out,Hn.out]);rw [Hn.out] at hs6 hc1 ⊢;have HV6:=af hV6;obtain ⟨cw,Hcw⟩:∃n,Hid (Wc.heap.size=n):=⟨_,af rfl⟩
 have hcw:tb+2≤cw:=by rw [← Hcw.out];have:=iJ.lt;have:=jR.size;omega
 rw [Hcw.out] at hs6 hc1 ⊢;have hsl:=hs6.lt;clear hV6 hBa jy hBx dw gP r7 jR iJ hT1;by_cases h64:n≤64
 ·have hgt:decide ((n:Int)>64)=false:=jI (by omega);have hgt2:¬(64:Int)<(n:Int):=by omega
  have hres:=HL0.out;rw [aC h64] at hres;have aaC:=af hres;clear hres
  go_wp2_with (first
   | ((with_reducible refine aU (f:=oV) (l:=bL p1 D.cls.length k1 p2 n k2 p3 D.ac.length k3) (C:= #[.slice p1 D.cls.length k1, .slice p2 n k2, .slice p3 D.ac.length k3]) bQ (.tmp 4) ?_ ?_ cw 0 ?_ hs6.at ?_ ?_);rfl;rfl;rfl;rfl)
   | ((with_reducible refine aK (f:=oV) (l:=[on,on,on]) (l':=bL p1 D.cls.length k1 p2 n k2 p3 D.ac.length k3) (t:=79) (C:= #[.slice p1 D.cls.length k1, .slice p2 n k2, .slice p3 D.ac.length k3]) bQ (.tmp 2) (.tmp 12) ?_ ?_ (tb+1) ?_ ?_ ?_ Fq ?_ bF ?_);rfl;rfl;rfl;rfl;rfl;rfl;(intro W9 iO dB tY)))
  have dV:Below tb w W9:=gH.grown dB (by omega) (fun k e=>by injection e with e;omega);refine fJ (v:= .tuple #[.agg #[.slice p1 D.cls.length k1, .slice p2 n k2, .slice p3 D.ac.length k3], .int .i64 0]) (bG (f:=oV) (l:=bL p1 D.cls.length k1 p2 n k2 p3 D.ac.length k3) (t:=3) rfl _ bQ (tb+1) 0 rfl iO.at) rfl ?_;refine ⟨_,rfl,?_,by rw [dF.out];exact dV⟩;rw [aaC.out];refine ⟨_,rfl,?_⟩;have h:=HV6.out.avoid (by rw [← HD.out];exact HT.out.canon.1) Fq dB;rw [Hn.out] at h;exact h
 ·have hgt:decide ((n:Int)>64)=true:=nE (by omega);have hgt2:(64:Int)<(n:Int):=by omega
  have hres:=HL0.out;rw [aF h64] at hres;have aaC:=af hres;clear hres;go_wp2_with ((with_reducible refine aK (f:=oV) (l:=[on,on,on]) (l':=[on,on,on]) (t:=79) (C:= #[.slice none 0 0, .slice none 0 0, .slice none 0 0]) bQ (.tmp 2) (.tmp 11) ?_ ?_ (tb+1) ?_ ?_ ?_ Fq ?_ bF ?_);rfl;rfl;rfl;rfl;rfl;rfl;(intro W9 iO dB tY));have dV:Below tb w W9:=gH.grown dB (by omega) (fun k e=>by injection e with e;omega);refine fJ (v:= .tuple #[.agg #[.slice none 0 0, .slice none 0 0, .slice none 0 0], .int .i64 2]) (bG (f:=oV) (l:=[on,on,on]) (t:=3) rfl _ bQ (tb+1) 0 rfl iO.at) rfl ?_;exact ⟨_,rfl,by rw [aaC.out];rfl,by rw [dF.out];exact dV⟩
theorem ab2 (w:World) (v:Value) (D:DF) (hv:dA w v D) (hV:D.V) (uP:iw w) (htl:1<w.heap.size):
  Calls Tryz.prog 175 #[v] w fun e w'=>∃v,e= .returned v∧fQ w' v (.ok (bT D).canon)∧Below w.heap.size w w':=by
 have HV:=af hV;have HA:=af hv;have Sk:=af uP;obtain ⟨p1,k1,p2,k2,p3,k3,rfl⟩:=hv.parts;obtain ⟨n1,Hn1⟩:∃n,Hid (D.cls.length=n):=⟨_,af rfl⟩
 obtain ⟨n2,Hn2⟩:∃n,Hid (D.nx.length=n):=⟨_,af rfl⟩
 obtain ⟨n3,Hn3⟩:∃n,Hid (D.ac.length=n):=⟨_,af rfl⟩
 rw [Hn1.out,Hn2.out,Hn3.out] at HA ⊢;clear hv hV uP;go_enter Tryz.func175,Tryz.ntmps175;go_upto_region 1 with (fail);have hD0:Row oV ((w.alloc (.cells #[.slice p1 n1 k1, .slice p2 n2 k2, .slice p3 n3 k3] 79)).alloc (.cells #[.slice none 0 0, .slice none 0 0, .slice none 0 0] 79)) w.heap.size 79 (bL p1 n1 k1 p2 n2 k2 p3 n3 k3):=(Row.new w (.cells #[.slice p1 n1 k1, .slice p2 n2 k2, .slice p3 n3 k3] 79) rfl).alloc _
 have iJ:Row oV ((w.alloc (.cells #[.slice p1 n1 k1, .slice p2 n2 k2, .slice p3 n3 k3] 79)).alloc (.cells #[.slice none 0 0, .slice none 0 0, .slice none 0 0] 79)) (w.heap.size+1) 79 [on,on,on]:=by
  have h:=Row.new (f:=oV) (w.alloc (.cells #[.slice p1 n1 k1, .slice p2 n2 k2, .slice p3 n3 k3] 79)) (t:=79) (l:=[on,on,on]) _ rfl;rw [bR] at h;exact h
 have hB0:Below w.heap.size w ((w.alloc (.cells #[.slice p1 n1 k1, .slice p2 n2 k2, .slice p3 n3 k3] 79)).alloc (.cells #[.slice none 0 0, .slice none 0 0, .slice none 0 0] 79)):=((au _ _).alloc (ah _) _).alloc (by simp) _;generalize ((w.alloc (.cells #[.slice p1 n1 k1, .slice p2 n2 k2, .slice p3 n3 k3] 79)).alloc (.cells #[.slice none 0 0, .slice none 0 0, .slice none 0 0] 79))=W at hB0 hD0 iJ ⊢;have hval:=II W _ D (HA.out.below hB0) HV.out;have aaE:=af hval;have ag3:=af htl;obtain ⟨tb,dF⟩:∃tb,Hid (w.heap.size=tb):=⟨_,af rfl⟩
 rw [dF.out] at hB0 hD0 iJ ⊢;clear hval htl
 go_upto_region 3 with (first
  | ((with_reducible refine aU (f:=oV) (l:=bL p1 n1 k1 p2 n2 k2 p3 n3 k3) (C:= #[.slice p1 n1 k1, .slice p2 n2 k2, .slice p3 n3 k3]) bQ (.tmp 1) ?_ ?_ tb 0 ?_ hD0.at ?_ ?_);rfl;rfl;rfl;rfl)
  | (go_at_call 69;refine aaE.out.mono ?_;rintro e Wb ⟨rfl,hBb⟩))
 have YT:=hD0.below hBb hD0.lt;have hRb:=iJ.below hBb iJ.lt;have hRl:=iJ.lt;have hBw:Below tb w Wb:=hB0.trans (hBb.mono (by omega));have htab:=Qf Wb _ D (HA.out.below (by rw [dF.out];exact hBw)) HV.out.mF (Sk.out.below (by rw [dF.out];exact hBw) ag3.out);have WE:=af htab;have yC:=af (jO HV.out.toOk);clear htab hD0 hB0 hBb iJ
 go_wp2_with (first
  | ((with_reducible refine aU (f:=oV) (l:=bL p1 n1 k1 p2 n2 k2 p3 n3 k3) (C:= #[.slice p1 n1 k1, .slice p2 n2 k2, .slice p3 n3 k3]) bQ (.tmp 1) ?_ ?_ tb 0 ?_ YT.at ?_ ?_);rfl;rfl;rfl;rfl)
  | (go_at_call 70;refine WE.out.mono ?_;rintro e Wc ⟨C,rfl,hC,jR⟩)
  | (go_at_call 177;refine (IV Wc C _ hC yC.out).mono ?_;rintro e Wd ⟨v,rfl,hv,hBd⟩;(obtain ⟨q1,j1,q2,j2,q3,j3,rfl⟩:=hv.parts);(have OV:=hRb.below (jR.trans (hBd.mono jR.size)) (by have:=hRb.lt;omega)))
  | ((with_reducible refine aK (f:=oV) (l:=[on,on,on]) (l':=bL q1 (bT D).canon.cls.length j1 q2 (bT D).canon.nx.length j2 q3 (bT D).canon.ac.length j3) (t:=79) (C:= #[.slice q1 (bT D).canon.cls.length j1, .slice q2 (bT D).canon.nx.length j2, .slice q3 (bT D).canon.ac.length j3]) bQ (.tmp 2) (.tmp 10) ?_ ?_ (tb+1) ?_ ?_ ?_ OV ?_ bF ?_);rfl;rfl;rfl;rfl;rfl;rfl;(intro W9 iO dB tY)))
 have dV:Below tb w W9:=(hBw.trans ((jR.trans (hBd.mono jR.size)).mono (by have:=hRb.lt;omega))).grown dB (by have:=OV.lt;omega) (fun k e=>by injection e with e;omega);refine fJ (v:= .tuple #[.agg #[.slice q1 (bT D).canon.cls.length j1, .slice q2 (bT D).canon.nx.length j2, .slice q3 (bT D).canon.ac.length j3], .int .i64 0]) (bG (f:=oV) (l:=bL q1 (bT D).canon.cls.length j1 q2 (bT D).canon.nx.length j2 q3 (bT D).canon.ac.length j3) (t:=3) rfl _ bQ (tb+1) 0 rfl iO.at) rfl ?_;exact ⟨_,rfl,⟨_,rfl,hv.avoid yC.out.canon.1 OV dB⟩,by rw [dF.out];exact dV⟩
def jv (s:UInt64):Array Value:= #[.int .u64 (X s)]
theorem OE (s:UInt64) (q:Nat) (h:q<64):(bits .and .u64 (X s / 2 ^ q) 1==1)=mU s q:=by
 rw [uU s q h,show (1:Int)=X 1 from rfl,qm];unfold mU;rw [AL,EE,EE];exact ⟨fun e=>rZ e,fun e=>by rw [e]⟩
structure TgW (w wr:World) (tb:Nat) (T:TB) (v1 v2:OC) (s o:UInt64):Prop where
 tab:qP wr tb T v1 v2
 set:Row oV wr (tb+1) 284 [ow (X s)]
 out:Row oV wr (tb+2) 284 [ow (X 0)]
 cur:Row oV wr (tb+3) 284 [ow (X o)]
 fH:Below tb w wr
 sz:tb+4≤wr.heap.size
theorem M6 (w:World) (C:Array Value) (T:TB) (hC:kL w C T) (hT:T.Ok) (h64:T.nx.length≤64) (s:UInt64) (b:Nat) (hb:b<256):
  Calls Tryz.prog 183 #[.agg C, .agg (jv s), .int .i64 (b:Int)] w fun e w'=>e= .returned (.agg (jv (T.targets s b)))∧Below w.heap.size w w':=by
 obtain ⟨⟨vn,jL⟩,⟨va,hva⟩,lq,h1,h2,h3⟩:=hC;obtain ⟨pn,kn,rfl⟩:=h1.slice;have HN:=af h1;have HT:=af hT;obtain ⟨n,Hn⟩:∃n,Hid (T.nx.length=n):=⟨_,af rfl⟩
 rw [Hn.out] at HN lq h64;have hT0:Row oV (w.alloc (.cells C 166)) w.heap.size 166 (bC T ⟨.slice pn n kn,jL⟩ ⟨va,hva⟩):=Row.new w (.cells C 166) (by rw [lq]);have hS0:(w.alloc (.cells C 166)).heap.size=w.heap.size+1:=bR _ _;have hB0:Below w.heap.size w (w.alloc (.cells C 166)):=(au _ _).alloc (ah _) _;clear h1 h2 hT lq;have zY:=af hS0;clear hS0;go_enter Tryz.func183,Tryz.ntmps183;go_upto_region 2 with (fail);generalize w.alloc (.cells C 166)=W at hT0 hB0 zY ⊢
 have m1:Row oV (W.alloc (.cells (jv s) 284)) (w.heap.size+1) 284 [ow (X s)]:=by
  have h:=Row.new (f:=oV) W (t:=284) (l:=[ow (X s)]) (.cells (jv s) 284) rfl
  rwa [zY.out] at h
 have z1:(W.alloc (.cells (jv s) 284)).heap.size=w.heap.size+2:=by rw [bR,zY.out]
 have t1:=hT0.alloc (.cells (jv s) 284);have b1:=hB0.alloc (by rw [zY.out];omega) (.cells (jv s) 284);generalize (W.alloc (.cells (jv s) 284))=W1 at m1 z1 t1 b1 ⊢
 have m2:Row oV (W1.alloc (.cells #[.int .u64 0] 284)) (w.heap.size+2) 284 [ow (X 0)]:=by
  have h:=Row.new (f:=oV) W1 (t:=284) (l:=[ow (X 0)]) (.cells #[.int .u64 0] 284) rfl
  rwa [z1] at h
 have z2:(W1.alloc (.cells #[.int .u64 0] 284)).heap.size=w.heap.size+3:=by rw [bR,z1]
 have t2:=t1.alloc (.cells #[.int .u64 0] 284);have m1':=m1.alloc (.cells #[.int .u64 0] 284);have b2:=b1.alloc (by rw [z1];omega) (.cells #[.int .u64 0] 284);generalize (W1.alloc (.cells #[.int .u64 0] 284))=W2 at m1' m2 z2 t2 b2 ⊢
 have m3:Row oV (W2.alloc (.cells #[.int .u64 0] 284)) (w.heap.size+3) 284 [ow (X (Gm T s b 0))]:=by
  have h:=Row.new (f:=oV) W2 (t:=284) (l:=[ow (X 0)]) (.cells #[.int .u64 0] 284) rfl
  rwa [z2] at h
 have hJ:TgW w (W2.alloc (.cells #[.int .u64 0] 284)) w.heap.size T ⟨.slice pn n kn,jL⟩ ⟨va,hva⟩ s (Gm T s b 0):=⟨⟨t2.alloc _,h3⟩,m1'.alloc _,m2.alloc _,m3,b2.alloc (by rw [z2];omega) _,by rw [bR,z2];omega⟩
 generalize (W2.alloc (.cells #[.int .u64 0] 284))=W3 at hJ ⊢;clear m1 z1 t1 b1 m1' m2 z2 t2 b2 m3 hT0 hB0 zY;clear W W1 W2;obtain ⟨tb,dF⟩:∃tb,Hid (w.heap.size=tb):=⟨_,af rfl⟩
 rw [dF.out] at hJ ⊢;rw [show tb+1+1+1=tb+3 from rfl,show tb+1+1=tb+2 from rfl];have sH:=hJ.tab.nx;go_wp2_with fail
 go_loopw [12] (fun s12 wr=>∃(q:Nat) (o:UInt64),q≤n∧s12= .int .i64 q∧Hid (Gm T s b q=o)∧TgW w wr tb T ⟨.slice pn n kn,jL⟩ ⟨va,hva⟩ s o) (fun s12 _=>n - (intOf s12).toNat)
 case atStart=>exact ⟨0,_,by omega,rfl,af rfl,hJ⟩
 case round=>
  clear hJ sH;obtain ⟨q,o,hq,rfl,HO,hJ⟩:=hrel;by_cases hlt:q<n
  ·have hqi:(q:Int)<(n:Int):=by omega
   have c0:wr.cell? ⟨tb+1,0,none⟩=some (.int .u64 (X s)):=hJ.set.cell? 0;have c2:wr.cell? ⟨tb+3,0,none⟩=some (.int .u64 (X o)):=hJ.cur.cell? 0;have f2:=hJ.cur.frozen 0;have sH:=hJ.tab.nx;have cb:=hJ.tab.c b hb;have hX:=fM s;have HB:=OE s q (by omega);have HT1:Hid (Gm T s b (q+1)=if mU s q=true then o ||| ((1:UInt64)<<<UInt64.ofNat (T.to q b)) else o):=af (by rw [Gm,HO.out]);by_cases hbit:mU s q=true
   ·have hcond:(bits .and .u64 (X s / 2 ^ q) 1==1)=true:=by rw [HB];exact hbit
    rw [aC hbit] at HT1;have hW1:Below w.heap.size w wr:=by rw [dF.out];exact hJ.fH
    obtain ⟨nb,no,rq,rd,rfl, -,hnb,hcr,hrw⟩:=sF HN.out q (by rw [Hn.out];exact hlt);have cr:wr.cell? ⟨nb,no+q,none⟩=some (.slice rq (T.nx.getD q []).length rd):=(hW1.cell (p:=⟨nb,no+q,none⟩) hnb).trans hcr;have hrl2:(T.nx.getD q []).length=T.cells:=HT.out.rw _ (aO _ _ _ (by rw [Hn.out];exact hlt));have BS:Hid (∀t∈T.nx.getD q [],t<n):=af (by rw [← Hn.out];exact uK HT.out.rb _);have hcT:T.cell.getD b 0<T.cells:=kZ HT.out b hb;have uR:Hid (T.to q b=(T.nx.getD q []).getD (T.cell.getD b 0) 0):=af rfl;obtain ⟨row,xU⟩:∃r,Hid (T.nx.getD q []=r):=⟨_,af rfl⟩
    obtain ⟨c,Hc⟩:∃c,Hid (T.cell.getD b 0=c):=⟨_,af rfl⟩
    rw [xU.out] at hrw BS hrl2 cr uR;rw [Hc.out] at cb hcT uR;obtain ⟨rn,Mm⟩:∃r,Hid (row.length=r):=⟨_,af rfl⟩
    have hcl:c<rn:=by rw [← Mm.out];omega
    rw [Mm.out] at cr hrw;obtain ⟨Xv,ZA,rfl,hct⟩:=iT hrw c hcl;have ct:=hct wr hW1;obtain ⟨t,Ht⟩:∃t,Hid (row.getD c 0=t):=⟨_,af rfl⟩
    have ht:t<n:=by rw [← Ht.out];exact BS.out _ (aO _ _ _ (by rw [Mm.out];exact hcl))
    rw [Ht.out] at ct uR;rw [uR.out] at HT1;have hsh:=Jc t (by omega);have hor:=I8 o ((1:UInt64)<<<UInt64.ofNat t);obtain ⟨sh,Hsh⟩:∃z,Hid ((1:UInt64)<<<UInt64.ofNat t=z):=⟨_,af rfl⟩
    obtain ⟨o2,Ho2⟩:∃z,Hid (o ||| sh=z):=⟨_,af rfl⟩
    rw [Hsh.out] at hsh hor HT1;rw [Ho2.out] at hor HT1;have hci:(c:Int)<(rn:Int):=by omega
    have HJ:=af hJ;clear hct hcr hrw hnb hrl2 hcT hcl HB hJ hbit;go_upto_region 6 with (fail);go_wp2_with fail;go_region
    have HJ2:Hid (TgW w (wr.setCell ⟨tb+3,0,none⟩ (.int .u64 (X o2))).drew tb T ⟨.slice (some ⟨nb,no,none⟩) n kn,jL⟩ ⟨va,hva⟩ s o2):=af (by
     have hJ:=HJ.out
     have hg:wr.grownBy (wr.setCell ⟨tb+3,0,none⟩ (.int .u64 (X o2))).drew (some (tb+3)):=Mem.uH (aI wr (tb+3) 0 (.int .u64 (X o2)))
     have hz:=hJ.sz
     exact ⟨⟨hJ.tab.row.grown hg (fun e=>by injection e with e;omega),hJ.tab.cl⟩,hJ.set.grown hg (fun e=>by injection e with e;omega),hJ.out.grown hg (fun e=>by injection e with e;omega),(hJ.cur.set 0 (ow (X o2))).drew,hJ.fH.grown hg (by omega) (fun k e=>by injection e with e;omega),aL hz hg.size⟩)
    generalize (wr.setCell ⟨tb+3,0,none⟩ (.int .u64 (X o2))).drew=W9 at HJ2 ⊢;clear c0 c2 f2 sH cb cr ct hsh hor hcond;go_wp2
    go_roundw
    case rel=>exact ⟨q+1,_,by omega,by go_num,HT1,HJ2.out⟩
    case measure=>simp [intOf];omega
   ·have hcond:(bits .and .u64 (X s / 2 ^ q) 1==1)=false:=by rw [HB];simpa using hbit
    rw [aF hbit] at HT1;clear HB hbit;go_wp2_with fail
    go_roundw
    case rel=>exact ⟨q+1,_,by omega,by go_num,HT1,hJ⟩
    case measure=>simp [intOf];omega
  ·obtain rfl:q=n:=by omega
   have HE:Hid (T.targets s b=o):=af (by unfold TB.targets;rw [Hn.out];exact HO.out);have za:=hJ.cur;have hout:=hJ.out;have HJ:=af hJ;have aS:bU Tryz.prog 284 1:=⟨fun _=>by kernel_rfl,fun _=>by kernel_rfl⟩
   clear hJ
   go_wp2_with (first
    | ((with_reducible refine aU (f:=oV) (l:=[ow (X o)]) (C:=jv o) aS (.tmp 7) ?_ ?_ (tb+3) 0 ?_ za.at ?_ ?_);rfl;rfl;rfl;rfl)
    | ((with_reducible refine aK (f:=oV) (l:=[ow (X 0)]) (l':=[ow (X o)]) (t:=284) (C:=jv o) aS (.tmp 6) (.tmp 38) ?_ ?_ (tb+2) ?_ ?_ ?_ hout ?_ bF ?_);rfl;rfl;rfl;rfl;rfl;rfl;(intro W9 iO dB tY)))
   have dV:Below tb w W9:=HJ.out.fH.grown dB (by have:=HJ.out.sz;omega) (fun k e=>by injection e with e;omega);refine fJ (aR (f:=oV) (l:=[ow (X o)]) rfl _ aS (tb+2) 0 rfl iO.at) rfl ?_;exact ⟨by rw [HE.out];rfl,by rw [dF.out];exact dV⟩
theorem TF (w:World) (C:Array Value) (T:TB) (hC:kL w C T) (hT:T.Ok) (h64:T.nx.length≤64) (s:UInt64):
  Calls Tryz.prog 186 #[.agg C, .agg (jv s)] w fun e w'=>e= .returned (.bool (T.some s))∧Below w.heap.size w w':=by
 obtain ⟨⟨vn,jL⟩,⟨va,hva⟩,lq,h1,h2,h3⟩:=hC;obtain ⟨pa,ka,rfl⟩:=h2.slice;have HA:=af h2;have HT:=af hT;obtain ⟨n,Hn⟩:∃n,Hid (T.nx.length=n):=⟨_,af rfl⟩
 have xB:T.ac.length=n:=by rw [← Hn.out];exact hT.ac
 rw [xB] at HA lq;rw [Hn.out] at h64;have HS:Hid (T.some s=(List.range n).any fun q=>T.ac.getD q false && mU s q):=af (by unfold TB.some;rw [Hn.out]);have Han:=af xB;have hT0:Row oV (w.alloc (.cells C 166)) w.heap.size 166 (bC T ⟨vn,jL⟩ ⟨.slice pa n ka,hva⟩):=Row.new w (.cells C 166) (by rw [lq]);have hS0:(w.alloc (.cells C 166)).heap.size=w.heap.size+1:=bR _ _;have hB0:Below w.heap.size w (w.alloc (.cells C 166)):=(au _ _).alloc (ah _) _;clear h1 h2 hT lq xB;have zY:=af hS0;clear hS0;go_enter Tryz.func186,Tryz.ntmps186;go_upto_region 1 with (fail);generalize w.alloc (.cells C 166)=W at hT0 hB0 zY ⊢
 have m1:Row oV (W.alloc (.cells (jv s) 284)) (w.heap.size+1) 284 [ow (X s)]:=by
  have h:=Row.new (f:=oV) W (t:=284) (l:=[ow (X s)]) (.cells (jv s) 284) rfl
  rwa [zY.out] at h
 have t1:qP (W.alloc (.cells (jv s) 284)) w.heap.size T ⟨vn,jL⟩ ⟨.slice pa n ka,hva⟩:=⟨hT0.alloc _,h3⟩
 have b1:=hB0.alloc (by rw [zY.out];omega) (.cells (jv s) 284);generalize (W.alloc (.cells (jv s) 284))=W1 at m1 t1 b1 ⊢;clear hT0 hB0 zY;obtain ⟨tb,dF⟩:∃tb,Hid (w.heap.size=tb):=⟨_,af rfl⟩
 have c0:W1.cell? ⟨w.heap.size+1,0,none⟩=some (.int .u64 (X s)):=m1.cell? 0;have Nz:=t1.ac;rw [dF.out] at c0 Nz b1 ⊢;have hX:=fM s;go_wp2_with fail
 go_loop [10] (fun s10=>∃q:Nat,q≤n∧s10= .int .i64 q∧Hid (((List.range q).any fun q=>T.ac.getD q false && mU s q)=false)) (fun s10=>n - (intOf s10).toNat)
 case atStart=>exact ⟨0,by omega,rfl,af rfl⟩
 case round=>
  obtain ⟨q,hq,rfl,HO⟩:=hrel;by_cases hlt:q<n
  ·have hqi:(q:Int)<(n:Int):=by omega
   obtain ⟨ab,ao,rfl,hca⟩:=uI HA.out q hlt;have YK:=hca W1 (by rw [dF.out];exact b1);have HB:=OE s q (by omega);obtain ⟨z,Hz⟩:∃z,Hid (T.ac.getD q false=z):=⟨_,af rfl⟩
   obtain ⟨y,Hy⟩:∃z,Hid (mU s q=z):=⟨_,af rfl⟩
   rw [Hz.out] at YK;rw [Hy.out] at HB;have CW:Hid (((List.range (q+1)).any fun q=>T.ac.getD q false && mU s q)=(z && y)):=af (by rw [K7,List.any_append,HO.out];simp only [List.any_cons,List.any_nil,qdo,Cz,Hz.out,Hy.out])
   have HE:Hid ((z && y)=true→T.some s=true):=af (fun h=>by
    rw [HS.out]
    exact qdu.2 ⟨q,Ij.2 hlt,by rw [Hz.out,Hy.out];exact h⟩)
   clear hca;cases z with
   | false=>
    clear HB;go_wp2_with fail
    go_round
    case rel=>exact ⟨q+1,by omega,by go_num,af (by rw [CW.out];rfl)⟩
    case measure=>simp [intOf];omega
   | true=>
    cases y with
    | false=>
     go_wp2_with fail
     go_round
     case rel=>exact ⟨q+1,by omega,by go_num,af (by rw [CW.out];rfl)⟩
     case measure=>simp [intOf];omega
    | true=>
     go_wp2_with fail;go_ret;exact ⟨by rw [HE.out rfl];rfl,by rw [dF.out];exact b1⟩
  ·obtain rfl:q=n:=by omega
   have HE:Hid (T.some s=false):=af (by rw [HS.out];exact HO.out);go_wp2_with fail;go_ret;exact ⟨by rw [HE.out];rfl,by rw [dF.out];exact b1⟩
theorem DF.Ok.step {D:DF} (h:D.Ok) {s c:Nat} (hs:s<D.nx.length) (hc:c<D.cls.length):(D.nx.getD s []).length=D.cls.length∧(D.nx.getD s []).getD c 0<D.nx.length:=by
 have e:D.nx.getD s []=D.nx[s]:=by rw [dD,bM hs];rfl
 have hl:=h.rw _ (pJ hs);rw [e];refine ⟨hl,?_⟩;have hc':c<D.nx[s].length:=by omega
 rw [dD,bM hc'];exact h.rb _ (pJ hs) _ (pJ hc')
theorem ac5 {l:List Nat} {n b k:Nat} (h:∀i,i<256→l.getD i 0<n) (hk:k<n) (i:Nat) (hi:i<256):(l.set b k).getD i 0<n:=by
 rw [dD,LJ];by_cases e:b=i
 ·rw [aC e];by_cases hb:b<l.length
  ·rw [aC hb];exact hk
  ·rw [aF hb];simp;omega
 ·rw [aF e,← dD];exact h i hi
theorem abS (c:Cl) {k:Nat} {l:List Nat} {m:Nat} (h:∀i,i<256→l.getD i 0<m) (hk:k<m) (n:Nat):∀i,i<256→(xS c k l n).getD i 0<m:=by
 induction n with
 | zero=>exact h
 | succ n ih=>
  intro i hi;rw [xg];split
  ·exact ac5 ih hk i hi
  ·exact ih i hi
theorem KQ {cls:List Cl} {m:Nat} (hm:1≤m):∀k,k≤m→∀i,i<256→(fI cls k).getD i 0<m
 | 0,_,i,hi=>by
  unfold fI;rw [dD,U4];split<;>simp<;>omega
 | k+1,hk,i,hi=>abS _ (KQ hm k (by omega)) (by omega) _ i hi
def DF.cell (D:DF):List Nat:=fI D.cls D.cls.length
theorem DF.Ok.cell {D:DF} (h:D.Ok) (i:Nat) (hi:i<256):D.cell.getD i 0<D.cls.length:=KQ h.c1 _ (ah _) i hi
def cellAt (cls:List Cl) (b:Nat):Nat→Nat
 | 0=>0
 | k+1=>if (cls.getD k ⟨0,0,0,0⟩).bit b=true then k else cellAt cls b k
theorem Zb (c:Cl) (i b:Nat) (l:List Nat) (hb:b<l.length) (n:Nat):(xS c i l n).getD b 0=if b<n∧c.bit b=true then i else l.getD b 0:=by
 induction n with
 | zero=>rw [aF (by omega)];rfl
 | succ n ih=>
  rw [xg];by_cases hc:c.bit n=true
  ·rw [aC hc,dD,LJ];by_cases e:n=b
   ·subst e;rw [aC rfl,aC (by rw [E9];exact hb),aC ⟨by omega,hc⟩];rfl
   ·rw [aF e,← dD,ih];by_cases h:b<n∧c.bit b=true
    ·rw [aC h,aC ⟨by omega,h.2⟩]
    ·rw [aF h,aF (fun h2=>h ⟨by omega,h2.2⟩)]
  ·rw [aF hc,ih];by_cases h:b<n∧c.bit b=true
   ·rw [aC h,aC ⟨by omega,h.2⟩]
   ·rw [aF h,aF (fun h2=>h ⟨by
     rcases Nat.lt_or_eq_of_le (Nat.le_of_lt_succ h2.1) with h3 | h3
     ·exact h3
     ·subst h3;exact absurd h2.2 hc,h2.2⟩)]
theorem Gc (cls:List Cl) (b:Nat) (hb:b<256):∀k,(fI cls k).getD b 0=cellAt cls b k
 | 0=>by unfold fI cellAt;rw [dD,U4,aC hb];rfl
 | k+1=>by
  rw [fI,Zb _ _ _ _ (by rw [yE];exact hb),Gc cls b hb k,cellAt];by_cases h:(cls.getD k ⟨0,0,0,0⟩).bit b=true
  ·rw [aC ⟨hb,h⟩,aC h]
  ·rw [aF (fun h2=>h h2.2),aF h]
def DF.to (D:DF) (s:Nat) (b:UInt8):Nat:=(D.nx.getD s []).getD (cellAt D.cls b.toNat D.cls.length) 0
theorem DF.to_eq (D:DF) (s:Nat) (b:UInt8):D.to s b=(D.nx.getD s []).getD (D.cell.getD b.toNat 0) 0:=by
 unfold DF.to DF.cell;rw [Gc _ _ b.toNat_lt]
theorem DF.Ok.to {D:DF} (h:D.Ok) {s:Nat} (hs:s<D.nx.length) (b:UInt8):D.to s b<D.nx.length:=by rw [DF.to_eq];exact (h.step hs (h.cell _ b.toNat_lt)).2
def uO (w:World) (mb:Nat) (D:DF):Prop:=∃vc vn va:OC,Row oV w mb 358 (lI vc vn va D.cell)∧vU w vn.1 D.nx∧Rd Value.bool w va.1 D.ac
theorem uO.below {w w':World} {mb:Nat} {D:DF} (h:uO w mb D) (hb:Below w.heap.size w w'):uO w' mb D:=by
 obtain ⟨vc,vn,va,h1,h2,h3⟩:=h;exact ⟨vc,vn,va,h1.below hb h1.lt,h2.below' hb,h3.below hb⟩
theorem uO.lt {w:World} {mb:Nat} {D:DF} (h:uO w mb D):mb<w.heap.size:=by
 obtain ⟨_,_,_,h1,_⟩:=h;exact h1.lt
theorem uO.to {w:World} {mb:Nat} {D:DF} (h:uO w mb D) (hD:D.Ok) {s:Nat} (hs:s<D.nx.length) (b:UInt8):
  ∃nb no nk rb ro rn rk,∀W,Below w.heap.size w W→W.cell? ⟨mb,1,none⟩=some (.slice (some ⟨nb,no,none⟩) D.nx.length nk)∧W.cell? ⟨nb,no+s,none⟩=some (.slice (some ⟨rb,ro,none⟩) rn rk)∧D.cell.getD b.toNat 0<rn∧W.cell? ⟨mb,3+b.toNat,none⟩=some (.int .i64 (D.cell.getD b.toNat 0:Nat))∧W.cell? ⟨rb,ro+D.cell.getD b.toNat 0,none⟩=some (.int .i64 (D.to s b:Nat)):=by
 obtain ⟨vc,⟨vn,jL⟩,va,h1,h2,h3⟩:=h;obtain ⟨pn,kn,rfl⟩:=h2.slice;obtain ⟨nb,no,rq,rd,rfl,_,hnb,hcr,hrow⟩:=sF h2 s hs;have hc:=hD.cell b.toNat b.toNat_lt;rw [DF.to_eq];obtain ⟨hl,_⟩:=hD.step hs hc;obtain ⟨rb,ro,rfl,hct⟩:=iT hrow (D.cell.getD b.toNat 0) (by omega);refine ⟨nb,no,kn,rb,ro,(D.nx.getD s []).length,rd,fun W hW=>⟨?_,?_,by omega,?_,hct W hW⟩⟩
 ·rw [(hW.cell (p:=⟨mb,1,none⟩) h1.lt),h1.cell?];rfl
 ·exact (hW.cell (p:=⟨nb,no+s,none⟩) hnb).trans hcr
 ·rw [(hW.cell (p:=⟨mb,3+b.toNat,none⟩) h1.lt),h1.cell?,NC _ _ _ (by unfold DF.cell;rw [yE];exact b.toNat_lt)];rfl
theorem pTo (w:World) (mb s:Nat) (D:DF) (b:UInt8) (hM:uO w mb D) (hD:D.Ok) (hs:s<D.nx.length):
  Calls Tryz.prog 254 #[.pointer (some ⟨mb,0,none⟩), .int .i64 (s:Int), .int .u8 (b.toNat:Int)] w fun e w'=>e= .returned (.int .i64 (D.to s b:Nat))∧∃m,w'=w.drewN m:=by
 obtain ⟨nb,no,nk,rb,ro,rn,rk,hA⟩:=hM.to hD hs b;obtain ⟨c1,c2,hc,c3,c4⟩:=hA w (au _ _);have h1:(s:Int)<(D.nx.length:Int):=by omega
 have h2:(b.toNat:Int)<256:=by have:=b.toNat_lt;omega
 have h3:((D.cell.getD b.toNat 0:Nat):Int)<(rn:Int):=by omega
 generalize D.to s b=t at *;generalize D.cell.getD b.toNat 0=c at *;generalize b.toNat=x at *;generalize D.nx.length=n at *;clear hA hM hD hs hc;go_enter Tryz.func254,Tryz.ntmps254;go_wp2_with fail;go_quiet (fail);go_wp2;go_ret;exact ⟨rfl,nq,rfl⟩
def uV (x:UInt64):Value:= .int .u64 (X x)
theorem afq:lF Tryz.prog 327 63 8:=lF.mk' (z:= .int .u64 0) Tryz.underlying327 (by kernel_rfl) rfl
theorem afB (w:World) (n:Nat) (hn:n≤4294967296):(Instr.makeSlice 327 (.int .i64 (n:Int)) (.int .i64 (n:Int))).run Tryz.prog w= .ok (.slice (some ⟨w.heap.size,0,none⟩) n n) (w.alloc (.cells ((List.replicate n (0:UInt64)).map uV).toArray 63)):=by
 obtain ⟨i,z,hi,hz,hs,hb,_⟩:=afq.hi
 have hzz:z= .int .u64 0:=by
  have h:(Tryz.prog.info? 63).bind (·.zero)=some (.int .u64 0):=by kernel_rfl
  rw [hi] at h;exact dJ (hz.symm.trans h)
 have h:=run_make w 327 63 i z Tryz.underlying327 hi hz .i64 .i64 (n:Int) (n:Int) (by omega) (Int.le_refl _) (by rw [hb];omega) (by omega);rw [Sw,hs,hzz,PE] at h;rw [h];show Result.ok _ (w.alloc (.cells (madeCells #[.int .u64 0] n) _))=_
 have e:madeCells #[.int .u64 0] n=((List.replicate n (0:UInt64)).map uV).toArray:=by
  apply ZF.1;rw [qcR,qdi];rfl
 rw [e]
def lvB (D:DF) (b:List UInt8) (later:List Bool) (cB:UInt64) (a s:Nat):Bool:=(D.ac.getD s false && later.getD a false) || (decide (a<b.length) && mU cB (D.to s (b.getD a 0)))
def KA (D:DF) (b:List UInt8) (later:List Bool) (cB x:UInt64) (a:Nat):Nat→UInt64
 | 0=>x
 | s+1=>if lvB D b later cB a s=true then KA D b later cB x a s ||| ((1:UInt64)<<<UInt64.ofNat s) else KA D b later cB x a s
def wL (D:DF) (b:List UInt8) (later:List Bool):Nat→List UInt64
 | 0=>List.replicate (b.length+1) 0
 | k+1=>(wL D b later k).set (b.length - k) (KA D b later ((wL D b later k).getD (b.length - k+1) 0) ((wL D b later k).getD (b.length - k) 0) (b.length - k) D.ac.length)
theorem Jo (D:DF) (b:List UInt8) (later:List Bool) (k:Nat):(wL D b later k).length=b.length+1:=by
 induction k with
 | zero=>simp [wL]
 | succ k ih=>rw [wL,ru,ih]
theorem Xz (l:List UInt64) (a:Nat):l.set a (l.getD a 0)=l:=by
 rw [dD];by_cases h:a<l.length
 ·rw [bM h];simp
 ·rw [List.set_eq_of_length_le (by omega)]
theorem Da {w:World} {b:Nat} {t:TypeId} {l:List UInt64} (h:Row uV w b t l) (i:Nat) (hi:i<l.length):w.cell? ⟨b,i,none⟩=some (.int .u64 (X (l.getD i 0))):=by
 rw [h.cell?,dD,bM hi];rfl
theorem uO.drewN {w:World} {mb:Nat} {D:DF} (h:uO w mb D) (n:Nat):uO (w.drewN n) mb D:=h
theorem oO (B:Nat) (w:World) (n:Nat):Below B w (w.drewN n):=⟨rfl,rfl,rfl,ah _,fun _ _=>rfl⟩
theorem aaV (w:World) (mb n nl kb kl:Nat) (D:DF) (pb pl:Option Addr) (b:List UInt8) (later:List Bool) (hM:uO w mb D) (hD:D.Ok) (h64:D.nx.length≤64) (hb:Rd aV w (.slice pb n kb) b) (hl:Rd Value.bool w (.slice pl nl kl) later) (hnl:n<nl) (hn:n≤65535):
  Calls Tryz.prog 220 #[.pointer (some ⟨mb,0,none⟩), .slice pb n kb, .slice pl nl kl] w fun e w'=>∃bl,e= .returned (.slice (some ⟨bl,0,none⟩) (n+1) (n+1))∧w.heap.size≤bl∧Row uV w' bl 63 (wL D b later (n+1))∧Below w.heap.size w w':=by
 have hbl:=hb.len;obtain ⟨vc,⟨yS,ahc⟩,⟨yG,afD⟩,hmr,hmn,hma⟩:=id hM;obtain ⟨pa,ka,rfl⟩:=hma.slice;have HM:=af hM;have HD:=af hD;have HB:=af hb;have HL:=af hl;have HA:=af hma;have HR:=af hmr;obtain ⟨m,Hm⟩:∃m,Hid (D.ac.length=m):=⟨_,af rfl⟩
 have agd:m≤64:=by rw [← Hm.out,hD.ac];exact h64
 have HX:Hid (D.nx.length=m):=af (by rw [← Hm.out];exact hD.ac.symm);have GU:Hid (b.length=n):=af hbl.symm;rw [Hm.out] at HR;clear hM hD hb hl hma hmr hmn h64 hbl;have hmk:=afB w (n+1) (by omega);rw [show ((n+1:Nat):Int)=(n:Int)+1 by omega] at hmk;obtain ⟨C0,tq⟩:∃C,Hid (((List.replicate (n+1) (0:UInt64)).map uV).toArray=C):=⟨_,af rfl⟩
 rw [tq.out] at hmk
 have hR0:Row uV (w.alloc (.cells C0 63)) w.heap.size 63 (wL D b later 0):=by
  rw [wL,GU.out,← tq.out];exact Row.new _ _ rfl
 have hB0:Below w.heap.size w (w.alloc (.cells C0 63)):=(au _ _).alloc (ah _) _;have hS0:w.heap.size<(w.alloc (.cells C0 63)).heap.size:=by rw [bR];omega
 obtain ⟨bl,yV⟩:∃q,Hid (w.heap.size=q):=⟨_,af rfl⟩
 go_enter Tryz.func220,Tryz.ntmps220;go_upto_region 2 with (fail);generalize (w.alloc (.cells C0 63))=W at *;clear hmk;rw [yV.out] at hR0 hB0 hS0 ⊢;go_upto_region 3 with (fail)
 go_loopw [8] (fun s8 wr=>∃a k:Nat,a+k=n+1∧s8= .int .i64 ((a:Int) - 1)∧Row uV wr bl 63 (wL D b later k)∧Below bl w wr) (fun s8 _=>(intOf s8+1).toNat)
 case atStart=>exact ⟨n+1,0,by omega,by congr 1;omega,hR0,hB0⟩
 case round=>
  clear hR0 hB0 hS0;obtain ⟨a,k,hak,rfl,hR,hB⟩:=hrel;have hW1:Below w.heap.size w wr:=by rw [yV.out];exact hB
  cases a with
  | zero=>
   obtain rfl:k=n+1:=by omega
   have hq:¬(0:Int)≤((0:Nat):Int) - 1:=by omega
   go_wp2_with fail;go_ret;exact ⟨bl,rfl,by rw [yV.out];omega,hR,hW1⟩
  | succ a=>
   have hq:(0:Int)≤(a:Int):=by omega
   rw [show ((a+1:Nat):Int) - 1=(a:Int) by omega];obtain rfl:k=n - a:=by omega
   have xB:a≤n:=by omega
   have HS:Hid (wL D b later (n - a+1)=(wL D b later (n - a)).set a (KA D b later ((wL D b later (n - a)).getD (a+1) 0) ((wL D b later (n - a)).getD a 0) a m)):=af (by
    rw [wL,GU.out,Hm.out,show n - (n - a)=a by omega])
   have hle:=Jo D b later (n - a);rw [GU.out] at hle;have hb0:bl<wr.heap.size:=hR.lt;obtain ⟨lb,lo,rfl,hlc⟩:=uI HL.out a (by omega)
   have c2:wr.cell? ⟨mb,2,none⟩=some (.slice pa m ka):=by
    rw [hW1.cell (p:=⟨mb,2,none⟩) HR.out.lt,HR.out.cell?];rfl
   generalize wL D b later (n - a)=L at *;have hR0:Row uV wr bl 63 (L.set a (KA D b later (L.getD (a+1) 0) (L.getD a 0) a 0)):=by rw [KA,Xz];exact hR
   clear hR;go_upto_region 6 with (fail);clear c2
   go_loopw [27] (fun TA wq=>∃s:Nat,s≤m∧TA= .int .i64 s∧Row uV wq bl 63 (L.set a (KA D b later (L.getD (a+1) 0) (L.getD a 0) a s))∧Below bl w wq) (fun TA _=>m - (intOf TA).toNat)
   case atStart=>exact ⟨0,by omega,rfl,hR0,hB⟩
   case round=>
    clear hR0 hB hW1 hb0;obtain ⟨s,hs,rfl,hR,hB⟩:=hrel;have hW1:Below w.heap.size w wr:=by rw [yV.out];exact hB
    by_cases hlt:s<m
    ·have hqs:(s:Int)<(m:Int):=by omega
     obtain ⟨ab,ao,rfl,hac⟩:=uI HA.out s (by rw [Hm.out];exact hlt);have ca:=hac wr hW1;have cl:=hlc wr hW1;have HT:=af (show KA D b later (L.getD (a+1) 0) (L.getD a 0) a (s+1)=if lvB D b later (L.getD (a+1) 0) a s=true then KA D b later (L.getD (a+1) 0) (L.getD a 0) a s ||| ((1:UInt64)<<<UInt64.ofNat s) else KA D b later (L.getD (a+1) 0) (L.getD a 0) a s from rfl);generalize KA D b later (L.getD (a+1) 0) (L.getD a 0) a s=y at *;have Hr:Hid (lvB D b later (L.getD (a+1) 0) a s=((D.ac.getD s false && later.getD a false) || (decide (a<n) && mU (L.getD (a+1) 0) (D.to s (b.getD a 0))))):=af (by unfold lvB;rw [GU.out]);generalize lvB D b later (L.getD (a+1) 0) a s=r at *;have hla:(L.set a y).length=n+1:=by simp [hle]
     have cy:=Da hR a (by omega);rw [show (L.set a y).getD a 0=y by rw [dD,LJ,aC rfl,aC (by omega)];rfl] at cy;have fy:=hR.frozen a
     have cz:a<n→wr.cell? ⟨bl,a+1,none⟩=some (.int .u64 (X (L.getD (a+1) 0))):=fun h=>by
      have:=Da hR (a+1) (by omega);rw [show (L.set a y).getD (a+1) 0=L.getD (a+1) 0 by rw [dD,LJ,aF (by omega),← dD]] at this;exact this
     generalize L.getD (a+1) 0=z at *;generalize D.ac.getD s false=A at *;generalize later.getD a false=E at *
     have hx:a<n→∃bb bo x,pb=some ⟨bb,bo,none⟩∧b.getD a 0=x∧wr.cell? ⟨bb,bo+a,none⟩=some (.int .u8 (x.toNat:Int)):=fun h=>by
      obtain ⟨bb,bo,x,h1,h2,h3⟩:=Uz HB.out a h;exact ⟨bb,bo,x,h1,by rw [dD,h2];rfl,h3 wr hW1⟩
     have ha1:(a:Int)<(nl:Int):=by omega
     go_upto_region 8 with (fail);go_cut [61] (fun s61 wx=>s61= .bool r∧∃q,wx=wr.drewN q)
     ·cases Eo:(A && E) with
      | true=>
       rw [cZ] at Eo;obtain ⟨rfl,rfl⟩:=Eo;replace Hr:Hid (r=true):=af (by rw [Hr.out];rfl);clear cz hx;go_quiet (fail);go_wp2;go_meet;exact ⟨by rw [Hr.out],nq,rfl⟩
      | false=>
       by_cases hlt2:a<n
       ·have hd:(a:Int)<(n:Int):=by omega
        obtain ⟨bb,bo,x,rfl,hbx,cx⟩:=hx hlt2;have cz:=cz hlt2;replace Hr:Hid (r=mU z (D.to s x)):=af (by rw [Hr.out,Eo,nE hlt2,hbx];rfl);have ht:D.to s x<64:=by have:=HD.out.to (s:=s) (by rw [HX.out];exact hlt) x;rw [HX.out] at this;omega
        have hbt:=OE z (D.to s x) ht;rw [← Hr.out] at hbt;have hn1:(a:Int)+1<(n:Int)+1:=by omega
        have hsx:s<D.nx.length:=by rw [HX.out];exact hlt
        clear hx hbx;cases A with
        | true=>
         obtain rfl:E=false:=by simpa using Eo
         clear Eo;go_quiet ((go_at_call 254;exact Calls.quiet_of (pTo _ mb s D x ((HM.out.below hW1).drewN _) HD.out hsx)));go_wp2;go_meet;exact ⟨rfl,nq,rfl⟩
        | false=>
         clear Eo;go_quiet ((go_at_call 254;exact Calls.quiet_of (pTo _ mb s D x ((HM.out.below hW1).drewN _) HD.out hsx)));go_wp2;go_meet;exact ⟨rfl,nq,rfl⟩
       ·have hd:decide ((a:Int)<(n:Int))=false:=by simp;omega
        replace Hr:Hid (r=false):=af (by rw [Hr.out,Eo,jI hlt2];rfl);clear cz hx;cases A with
        | true=>
         obtain rfl:E=false:=by simpa using Eo
         clear Eo;go_quiet (fail);go_wp2;go_meet;exact ⟨by rw [Hr.out],nq,rfl⟩
        | false=>
         clear Eo;go_quiet (fail);go_wp2;go_meet;exact ⟨by rw [Hr.out],nq,rfl⟩
     clear cz hx Hr ca cl;obtain ⟨rfl,q,rfl⟩:=hcut;cases r with
     | true=>
      have hsh:=Jc s (by omega);have hor:=I8 y ((1:UInt64)<<<UInt64.ofNat s);rw [aC rfl] at HT;generalize (1:UInt64)<<<UInt64.ofNat s=sh at *;generalize hy2:y ||| sh=y2 at *
      have hR2:=hR.set a y2;rw [List.set_set] at hR2;have hB2:=aQ hB (b:=bl) a (ah _) (uV y2);go_wp2_with fail;go_region;go_wp2
      go_roundw
      case rel=>exact ⟨s+1,by omega,by go_num,by rw [HT.out];exact hR2,hB2.trans (oO _ _ _)⟩
      case measure=>simp [intOf]<;>omega
     | false=>
      rw [aF (by simp)] at HT;go_wp2
      go_roundw
      case rel=>exact ⟨s+1,by omega,by go_num,by rw [HT.out];exact hR,hB.trans (oO _ _ _)⟩
      case measure=>simp [intOf]<;>omega
    ·obtain rfl:s=m:=by omega
     rw [← HS.out] at hR;have hq2:¬(s:Int)<(s:Int):=by omega
     go_wp2_with fail
     go_roundw
     case rel=>exact ⟨a,n - a+1,by omega,by go_num,hR,hB⟩
     case measure=>simp [intOf]<;>omega
end
end Go.Proofs.YtncnfncglacheaaGreatDoor
