/- A normalizer that the reference has made, with its rows of its own: it may be written. -/
import Derived.Test.YtncnfncglacheaaGreatDoorMRefine
import Derived.Test.YtncnfncglacheaaGreatDoorMDfM
import Derived.Test.YtncnfncglacheaaGreatDoorMExec
import Derived.Test.YtncnfncglacheaaGreatDoorMHeldD
import Derived.Test.YtncnfncglacheaaGreatDoorMTbM
import Derived.Test.YtncnfncglacheaaGreatDoorMClass
import Derived.RegionTactic
import Derived.Test.YtncnfncglacheaaGreatDoorMMeets
import Derived.Laws.StructEq
import Derived.Test.YtncnfncglacheaaGreatDoorMSts
namespace Go.Proofs.YtncnfncglacheaaGreatDoor
open Go Go.RowKit Mem
set_option maxRecDepth 100000
theorem aggD:AggT Tryz.prog 79 3:=⟨fun _=>by kernel_rfl,fun _=>by kernel_rfl⟩
theorem own_apart {α β:Type} {f:α→Value} {g:β→Value} {w:World} {b1 b2:Nat} {e1 e2:TypeId} {v1 v2:Value} {l1:List α} {l2:List β} (h1:Mem.Own f w b1 e1 v1 l1) (h2:Mem.Own g w b2 e2 v2 l2) (hne:e1≠e2):∀k,v1.ownBlock=some k→v2.ownBlock≠some k:=by
 intro k hk hk2
 rcases h1.2 with ⟨rfl,_⟩ | ⟨g1,c1,cur1,rfl,_,hc1,_⟩
 ·cases hk
 ·rcases h2.2 with ⟨rfl,_⟩ | ⟨g2,c2,cur2,rfl,_,hc2,_⟩
  ·cases hk2
  ·cases hk
   cases hk2
   rw [hc1] at hc2
   injection hc2 with hc2
   injection hc2 with _ hc2
   exact hne hc2
def RowV (X:World) (B N:Nat) (vo:Value) (u:OC) (r:List Nat):Prop:=∃g,u.1= .slice (some ⟨g,0,none⟩) r.length r.length∧Row nV X g 3 r∧B+2≤g∧g<N∧vo.ownBlock≠some g∧r.length≤256
structure CnW (Wc X:World) (B N:Nat) (vc:OC) (st:CS) (nx:List (List Nat)) (ac:List Bool) (po:Option Addr) (co:Nat) (pn:Option Addr) (cn:Nat) (pa:Option Addr) (ca:Nat) (us:List OC):Prop where
 bel:Below B Wc X
 dfa:Row oV X B 79 [vc,⟨.slice pn us.length cn,rfl⟩,⟨.slice pa ac.length ca,rfl⟩]
 place:Row zV X (B+1) 3 st.place
 ord:Mem.Own nV X (B+2) 3 (.slice po st.ord.length co) st.ord
 next:Mem.Own oV X (B+2) 92 (.slice pn us.length cn) us
 rows:F2 (RowV X B N (.slice po st.ord.length co)) us nx
 acc:Mem.Own Value.bool X (B+2) 4 (.slice pa ac.length ca) ac
 sz:B+2≤X.heap.size
 nN:N≤X.heap.size
section
variable {Wc X X':World} {B N:Nat} {vc:OC} {st:CS} {nx:List (List Nat)} {ac:List Bool} {po:Option Addr} {co:Nat} {pn:Option Addr} {cn:Nat} {pa:Option Addr} {ca:Nat} {us:List OC}
theorem CnW.grown (h:CnW Wc X B N vc st nx ac po co pn cn pa ca us) {row:Option Nat} (hg:X.grownBy X' row) (hr:∀g,row=some g→N≤g∧B+2≤g∧(Value.slice po st.ord.length co).ownBlock≠some g∧(Value.slice pn us.length cn).ownBlock≠some g∧(Value.slice pa ac.length ca).ownBlock≠some g):CnW Wc X' B N vc st nx ac po co pn cn pa ca us:=by
 have hz:=h.sz
 refine ⟨h.bel.grown hg (by omega) (fun k e=>by have:=(hr k e).2.1;omega),h.dfa.grown hg (fun e=>by have:=(hr _ e.symm).2.1;omega),h.place.grown hg (fun e=>by have:=(hr _ e.symm).2.1;omega),h.ord.kept hg (fun g hg' e=>(hr g e).2.2.1 hg'),h.next.kept hg (fun g hg' e=>(hr g e).2.2.2.1 hg'),?_,h.acc.kept hg (fun g hg' e=>(hr g e).2.2.2.2 hg'),Nat.le_trans h.sz hg.size,Nat.le_trans h.nN hg.size⟩
 refine forall2_imp ?_ h.rows
 rintro u r ⟨g,e1,e2,e3,e4,e5,e6⟩
 exact ⟨g,e1,e2.grown hg (fun e=>by have:=(hr g e.symm).1;omega),e3,e4,e5,e6⟩
theorem CnW.alloc (h:CnW Wc X B N vc st nx ac po co pn cn pa ca us) (o:Obj):CnW Wc (X.alloc o) B N vc st nx ac po co pn cn pa ca us:=h.grown (World.grownBy_alloc X o none) (fun _ e=>by cases e)
theorem CnW.mono (h:CnW Wc X B N vc st nx ac po co pn cn pa ca us) {M:Nat} (hM:N≤M) (hX:M≤X.heap.size):CnW Wc X B M vc st nx ac po co pn cn pa ca us:=
 ⟨h.bel,h.dfa,h.place,h.ord,h.next,forall2_imp (fun _ _ ⟨g,e1,e2,e3,e4,e5,e6⟩=>⟨g,e1,e2,e3,by omega,e5,e6⟩) h.rows,h.acc,h.sz,hX⟩
theorem CnW.setPlace (h:CnW Wc X B N vc st nx ac po co pn cn pa ca us) (t:Nat) (q:Int):CnW Wc (X.setCell ⟨B+1,t,none⟩ (zV q)) B N vc {st with place:=st.place.set t q} nx ac po co pn cn pa ca us:=by
 have hg:=grown_cell X (B+1) t (zV q)
 have hz:=h.sz
 have hl:=h.place.lt
 refine ⟨h.bel.grown hg (by omega) (fun k e=>by injection e with e;omega),h.dfa.grown hg (by simp),h.place.set t q,h.ord.kept hg (fun g hg' e=>by have:=(h.ord.lt g hg').1;injection e with e;omega),h.next.kept hg (fun g hg' e=>by have:=(h.next.lt g hg').1;injection e with e;omega),?_,h.acc.kept hg (fun g hg' e=>by have:=(h.acc.lt g hg').1;injection e with e;omega),Nat.le_trans h.sz hg.size,Nat.le_trans h.nN hg.size⟩
 refine forall2_imp ?_ h.rows
 rintro u r ⟨g,e1,e2,e3,e4,e5,e6⟩
 exact ⟨g,e1,e2.grown hg (fun e=>by injection e with e;omega),e3,e4,e5,e6⟩
theorem CnW.order (h:CnW Wc X B N vc st nx ac po co pn cn pa ca us) {o:Obj} {t:Nat} {p:Option Addr} {c:Nat} (hO:Mem.Own nV X' (B+2) 3 (.slice p (st.ord++[t]).length c) (st.ord++[t])) (hG:(X.alloc o).grownBy X' (Value.slice po st.ord.length co).ownBlock) (hw:∀g,(Value.slice p (st.ord++[t]).length c).ownBlock=some g→(Value.slice po st.ord.length co).ownBlock=some g∨X.heap.size+1≤g):
  CnW Wc X' B N vc {st with ord:=st.ord++[t]} nx ac p c pn cn pa ca us:=by
 have h':=h.alloc o
 have hb:∀g,(Value.slice po st.ord.length co).ownBlock=some g→B+2≤g:=fun g e=>(h.ord.lt g e).1
 have hz:=h'.sz
 have hty:∀g,(Value.slice pn us.length cn).ownBlock=some g→(Value.slice po st.ord.length co).ownBlock≠some g:=fun g e e'=>own_apart h.next h.ord (by decide) g e e'
 have hty2:∀g,(Value.slice pa ac.length ca).ownBlock=some g→(Value.slice po st.ord.length co).ownBlock≠some g:=fun g e e'=>own_apart h.acc h.ord (by decide) g e e'
 refine ⟨h'.bel.grown hG (by omega) (fun k e=>by have:=hb k e;omega),h'.dfa.grown hG (fun e=>by have:=hb _ e.symm;omega),h'.place.grown hG (fun e=>by have:=hb _ e.symm;omega),hO,h'.next.kept hG hty,?_,h'.acc.kept hG hty2,Nat.le_trans h'.sz hG.size,Nat.le_trans h'.nN hG.size⟩
 have hN:=h.nN
 refine forall2_imp ?_ h'.rows
 rintro u r ⟨g,e1,e2,e3,e4,e5,e6⟩
 refine ⟨g,e1,e2.grown hG (fun e=>e5 e.symm),e3,e4,fun e=> ?_,e6⟩
 rcases hw g e with h1 | h1
 ·exact e5 h1
 ·omega
end
theorem f2_snoc {α β:Type} {R:α→β→Prop}:∀{l:List α} {m:List β} {a:α} {b:β},F2 R l m→R a b→F2 R (l++[a]) (m++[b])
 | _,_,_,_, .nil,h=> .cons h .nil
 | _,_,_,_, .cons h t,h'=> .cons h (f2_snoc t h')
theorem f2_length {α β:Type} {R:α→β→Prop}:∀{l:List α} {m:List β},F2 R l m→l.length=m.length
 | _,_, .nil=>rfl
 | _,_, .cons _ t=>congrArg Nat.succ (f2_length t)
theorem f2_get {α β:Type} {R:α→β→Prop}:∀{l:List α} {m:List β},F2 R l m→∀(k:Nat) (h1:k<l.length) (h2:k<m.length),R l[k] m[k]
 | _,_, .cons h _,0,_,_=>h
 | _,_, .cons _ t,k+1,h1,h2=>f2_get t k (Nat.lt_of_succ_lt_succ h1) (Nat.lt_of_succ_lt_succ h2)
theorem eltNN:Elt Tryz.prog 25 92 24:=Elt.mk' (z:= .slice none 0 0) Tryz.underlying25 (by kernel_rfl) rfl
section
variable {Wc X X':World} {B N:Nat} {vc:OC} {st:CS} {nx:List (List Nat)} {ac:List Bool} {po:Option Addr} {co:Nat} {pn:Option Addr} {cn:Nat} {pa:Option Addr} {ca:Nat} {us:List OC}
theorem CnW.row (h:CnW Wc X B N vc st nx ac po co pn cn pa ca us) (g i:Nat) (v:Value) (hg:N≤g) (hB:B+2≤g) (ho:(Value.slice po st.ord.length co).ownBlock≠some g) (hn:(Value.slice pn us.length cn).ownBlock≠some g) (ha:(Value.slice pa ac.length ca).ownBlock≠some g):CnW Wc (X.setCell ⟨g,i,none⟩ v) B N vc st nx ac po co pn cn pa ca us:=
 h.grown (grown_cell X g i v) (fun k e=>by injection e with e;subst e;exact ⟨hg,hB,ho,hn,ha⟩)
theorem CnW.cast (h:CnW Wc X B N vc st nx ac po co pn cn pa ca us) {st':CS} (h1:st.ord=st'.ord) (h2:st.place=st'.place):CnW Wc X B N vc st' nx ac po co pn cn pa ca us:=by
 obtain ⟨o,pl,r⟩:=st
 obtain ⟨o',pl',r'⟩:=st'
 simp only at h1 h2
 subst h1 h2
 exact ⟨h.bel,h.dfa,h.place,h.ord,h.next,h.rows,h.acc,h.sz,h.nN⟩
theorem snoc_set {l:List Nat} {j m x:Nat} (hl:l.length=j) (hj:j<m):(l++List.replicate (m - j) 0).set j x=(l++[x])++List.replicate (m - (j+1)) 0:=by
 subst hl
 rw [show m - l.length=(m - (l.length+1))+1 by omega,List.replicate_succ,List.set_append_right _ _ (Nat.le_refl _),Nat.sub_self,List.set_cons_zero,List.append_assoc];rfl
theorem CnW.addRow (h:CnW Wc X B N vc st nx ac po co pn cn pa ca us) {g:Nat} {r:List Nat} (hr:Row nV X g 3 r) (hgB:B+2≤g) (hog:(Value.slice po st.ord.length co).ownBlock≠some g) (hr2:r.length≤256) {o:Obj} {p:Option Addr} {c:Nat} {u:OC} (hu:u.1= .slice (some ⟨g,0,none⟩) r.length r.length)
  (hO:Mem.Own oV X' (B+2) 92 (.slice p (us++[u]).length c) (us++[u])) (hG:(X.alloc o).grownBy X' (Value.slice pn us.length cn).ownBlock) {M:Nat} (hM:N≤M) (hgM:g<M) (hMX:M≤X'.heap.size):
  CnW Wc (X'.setCell ⟨B,1,none⟩ (.slice p (us++[u]).length c)) B M vc st (nx++[r]) ac po co p c pa ca (us++[u]):=by
 have h':=h.alloc o
 have hb:∀k,(Value.slice pn us.length cn).ownBlock=some k→B+2≤k:=fun k e=>(h.next.lt k e).1
 have hz:=h'.sz
 have hrow:∀k l,Row nV X k 3 l→(Value.slice pn us.length cn).ownBlock≠some k:=by
  intro k l hk e
  rcases h.next.2 with ⟨e1,_⟩ | ⟨g1,c1,cur1,e1,_,hc1,_⟩
  ·rw [e1] at e;cases e
  ·rw [e1] at e;cases e
   unfold Row at hk
   rw [hk] at hc1
   injection hc1 with hc1
   injection hc1 with _ hc1
   exact absurd hc1 (by decide)
 have hgs:=grown_cell X' B 1 (.slice p (us++[u]).length c)
 have d1:=(h'.dfa.grown hG (fun e=>by have:=hb _ e.symm;omega)).set 1 ⟨.slice p (us++[u]).length c,rfl⟩
 have hbe:Below B Wc X':=h'.bel.grown hG (by omega) (fun k e=>by have:=hb k e;omega)
 have hzX:B+2≤X'.heap.size:=Nat.le_trans h'.sz hG.size
 refine ⟨hbe.grown hgs (by omega) (fun k e=>by injection e with e;omega),d1,(h'.place.grown hG (fun e=>by have:=hb _ e.symm;omega)).grown hgs (fun e=>by injection e with e;omega),(h'.ord.kept hG (fun k hk e=>own_apart h.next h.ord (by decide) k e hk)).kept hgs (fun k hk e=>by have:=(h.ord.lt k hk).1;injection e with e;omega),hO.kept hgs (fun k hk e=>by have:=(hO.lt k hk).1;injection e with e;omega),?_,(h'.acc.kept hG (fun k hk e=>own_apart h.next h.acc (by decide) k e hk)).kept hgs (fun k hk e=>by have:=(h.acc.lt k hk).1;injection e with e;omega),Nat.le_trans hzX hgs.size,Nat.le_trans hMX hgs.size⟩
 have hone:RowV (X'.setCell ⟨B,1,none⟩ (.slice p (us++[u]).length c)) B M (.slice po st.ord.length co) u r:=
  ⟨g,hu,((hr.alloc o).grown hG (fun e=>hrow g r hr e.symm)).grown hgs (fun e=>by injection e with e;omega),hgB,hgM,hog,hr2⟩
 have hall:F2 (RowV (X'.setCell ⟨B,1,none⟩ (.slice p (us++[u]).length c)) B M (.slice po st.ord.length co)) us nx:=by
  refine forall2_imp ?_ h.rows
  rintro u' r' ⟨k,e1,e2,e3,e4,e5,e6⟩
  exact ⟨k,e1,((e2.alloc o).grown hG (fun e=>hrow k r' e2 e.symm)).grown hgs (fun e=>by injection e with e;omega),e3,by omega,e5,e6⟩
 exact f2_snoc hall hone
theorem CnW.addAcc (h:CnW Wc X B N vc st nx ac po co pn cn pa ca us) {o:Obj} {b:Bool} {p:Option Addr} {c:Nat}
  (hO:Mem.Own Value.bool X' (B+2) 4 (.slice p (ac++[b]).length c) (ac++[b])) (hG:(X.alloc o).grownBy X' (Value.slice pa ac.length ca).ownBlock):
  CnW Wc (X'.setCell ⟨B,2,none⟩ (.slice p (ac++[b]).length c)) B N vc st nx (ac++[b]) po co pn cn p c us:=by
 have h':=h.alloc o
 have hb:∀k,(Value.slice pa ac.length ca).ownBlock=some k→B+2≤k:=fun k e=>(h.acc.lt k e).1
 have hz:=h'.sz
 have hrow:∀k l,Row nV X k 3 l→(Value.slice pa ac.length ca).ownBlock≠some k:=by
  intro k l hk e
  rcases h.acc.2 with ⟨e1,_⟩ | ⟨g1,c1,cur1,e1,_,hc1,_⟩
  ·rw [e1] at e;cases e
  ·rw [e1] at e;cases e
   unfold Row at hk
   rw [hk] at hc1
   injection hc1 with hc1
   injection hc1 with _ hc1
   exact absurd hc1 (by decide)
 have hgs:=grown_cell X' B 2 (.slice p (ac++[b]).length c)
 have d1:=(h'.dfa.grown hG (fun e=>by have:=hb _ e.symm;omega)).set 2 ⟨.slice p (ac++[b]).length c,rfl⟩
 have hbe:Below B Wc X':=h'.bel.grown hG (by omega) (fun k e=>by have:=hb k e;omega)
 have hzX:B+2≤X'.heap.size:=Nat.le_trans h'.sz hG.size
 refine ⟨hbe.grown hgs (by omega) (fun k e=>by injection e with e;omega),d1,(h'.place.grown hG (fun e=>by have:=hb _ e.symm;omega)).grown hgs (fun e=>by injection e with e;omega),(h'.ord.kept hG (fun k hk e=>own_apart h.acc h.ord (by decide) k e hk)).kept hgs (fun k hk e=>by have:=(h.ord.lt k hk).1;injection e with e;omega),(h'.next.kept hG (fun k hk e=>own_apart h.acc h.next (by decide) k e hk)).kept hgs (fun k hk e=>by have:=(h.next.lt k hk).1;injection e with e;omega),?_,hO.kept hgs (fun k hk e=>by have:=(hO.lt k hk).1;injection e with e;omega),Nat.le_trans hzX hgs.size,Nat.le_trans (Nat.le_trans h'.nN hG.size) hgs.size⟩
 refine forall2_imp ?_ h.rows
 rintro u' r' ⟨k,e1,e2,e3,e4,e5,e6⟩
 exact ⟨k,e1,((e2.alloc o).grown hG (fun e=>hrow k r' e2 e.symm)).grown hgs (fun e=>by injection e with e;omega),e3,e4,e5,e6⟩
end
structure KeepT (w w':World):Prop where
 size:w.heap.size≤w'.heap.size
 blk:∀g,g<w.heap.size→(∀C k,w.heap[g]?≠some (.cells C 166 k))→w'.heap[g]?=w.heap[g]?
theorem KeepT.refl (w:World):KeepT w w:=⟨Nat.le_refl _,fun _ _ _=>rfl⟩
theorem KeepT.trans {a b c:World} (h:KeepT a b) (h2:KeepT b c):KeepT a c:=
 ⟨Nat.le_trans h.size h2.size,fun g hg hn=>by
  have e:=h.blk g hg hn
  rw [← e]
  exact h2.blk g (Nat.lt_of_lt_of_le hg h.size) (by rw [e];exact hn)⟩
theorem KeepT.of_below {w w':World} (h:Below w.heap.size w w'):KeepT w w':=⟨h.size,fun g hg _=>h.block g hg⟩
theorem KeepT.of_grown {w w':World} {b:Nat} {L:List OC} (hr:Row oV w b 166 L) (h:w.grownBy w' (some b)):KeepT w w':=
 ⟨h.size,fun g hg hn=>h.block g hg (fun e=>by injection e with e;subst e;exact hn _ _ hr)⟩
def DfS (w:World) (v:Value) (D:DF):Prop:=∀X,KeepT w X→DfAt X v D
theorem DfS.keep {w w':World} {v:Value} {D:DF} (h:DfS w v D) (hk:KeepT w w'):DfS w' v D:=fun X hX=>h X (hk.trans hX)
theorem Mem.Own.keepT {α:Type} {f:α→Value} {w X:World} {base:Nat} {e:TypeId} {v:Value} {l:List α} (h:Mem.Own f w base e v l) (hX:KeepT w X) (hne:e≠166):Mem.Own f X base e v l:=by
 refine ⟨h.1,?_⟩
 rcases h.2 with hn | ⟨g,cap,cur,rfl,hbg,hc,rest⟩
 ·exact .inl hn
 ·exact .inr ⟨g,cap,cur,rfl,hbg,(hX.blk g (Array.getElem?_eq_some_iff.1 hc).1 (fun C k e=>by rw [hc] at e;injection e with e;injection e with _ e;exact hne e)).trans hc,rest⟩
theorem OwnK.keepT {α:Type} {K:Nat} {enc:α→List OC} {w X:World} {base:Nat} {e:TypeId} {v:Value} {l:List α} (h:OwnK K enc w base e v l) (hX:KeepT w X) (hne:e≠166):OwnK K enc X base e v l:=by
 refine ⟨h.1,?_⟩
 rcases h.2 with hn | ⟨g,cap,cur,rfl,hbg,hc,rest⟩
 ·exact .inl hn
 ·exact .inr ⟨g,cap,cur,rfl,hbg,(hX.blk g (Array.getElem?_eq_some_iff.1 hc).1 (fun C k e=>by rw [hc] at e;injection e with e;injection e with _ e;exact hne e)).trans hc,rest⟩
theorem Mem.Row.keepT {α:Type} {f:α→Value} {w X:World} {b:Nat} {e:TypeId} {l:List α} (h:Row f w b e l) (hX:KeepT w X) (hne:e≠166):Row f X b e l:=by
 unfold Row at *
 exact (hX.blk b (Array.getElem?_eq_some_iff.1 h).1 (fun C k e=>by rw [h] at e;injection e with e;injection e with _ e;exact hne e)).trans h
end Go.Proofs.YtncnfncglacheaaGreatDoor
namespace Go.Proofs.YtncnfncglacheaaGreatDoor
open Go Go.RowKit Mem
set_option maxRecDepth 100000
set_option maxHeartbeats 16000000 in
theorem tCanonS (w:World) (C:Array Value) (T:TB) (hC:TbAt w C T) (hT:T.Ok):
  Calls Tryz.prog 177 #[.agg C] w fun e w'=>∃v,e= .returned v∧DfS w' v T.canon∧Below w.heap.size w w':=by
 have HC:=Lib.hid hC
 have HT:=Lib.hid hT
 obtain ⟨⟨vn,hvn⟩,⟨va,hva⟩,hCe,h1,h2,h3⟩:=hC
 obtain ⟨pnn,knn,rfl⟩:=h1.slice
 obtain ⟨paa,kaa,rfl⟩:=h2.slice
 have HN:=Lib.hid h1
 have HA:=Lib.hid h2
 obtain ⟨nn,Hnn⟩:∃n,Hid (T.nx.length=n):=⟨_,Lib.hid rfl⟩
 have han:T.ac.length=nn:=by rw [← Hnn.out];exact hT.ac
 rw [han] at HA hCe
 rw [Hnn.out] at HN hCe
 have Han:=Lib.hid han
 clear han
 obtain ⟨L,HL⟩:∃L,Hid (tbL T ⟨.slice pnn nn knn,hvn⟩ ⟨.slice paa nn kaa,hva⟩=L):=⟨_,Lib.hid rfl⟩
 have hLl:L.length=259:=by rw [← HL.out];exact tbL_length _ _ h3
 have hAT:AggT Tryz.prog 166 L.length:=by rw [hLl];exact aggTb
 rw [HL.out] at hCe
 clear h1 h2 hT hLl
 have hT0:Row oV (w.alloc (.cells C 166)) w.heap.size 166 L:=Row.new _ _ (by rw [hCe])
 have HCe:=Lib.hid hCe
 clear hCe
 go_enter Tryz.func177,Tryz.ntmps177
 go_upto_region 1 with (fail)
 have hB0:Below w.heap.size w ((w.alloc (.cells C 166)).alloc (.cells #[.slice none 0 0, .slice none 0 0, .slice none 0 0] 79)):=((Below.refl _ _).alloc (Nat.le_refl _) _).alloc (by simp) _
 have hT1:=hT0.alloc (.cells #[.slice none 0 0, .slice none 0 0, .slice none 0 0] 79)
 have hR1:Row oV ((w.alloc (.cells C 166)).alloc (.cells #[.slice none 0 0, .slice none 0 0, .slice none 0 0] 79)) (w.heap.size+1) 79 [on,on,on]:=by
  have h:=Row.new (f:=oV) (w.alloc (.cells C 166)) (t:=79) (l:=[on,on,on]) _ rfl
  rw [World.size_alloc] at h
  exact h
 have hS1:((w.alloc (.cells C 166)).alloc (.cells #[.slice none 0 0, .slice none 0 0, .slice none 0 0] 79)).heap.size=w.heap.size+2:=by simp
 generalize ((w.alloc (.cells C 166)).alloc (.cells #[.slice none 0 0, .slice none 0 0, .slice none 0 0] 79))=W at hB0 hT1 hR1 hS1 ⊢
 clear hT0
 obtain ⟨tb,Htb⟩:∃tb,Hid (w.heap.size=tb):=⟨_,Lib.hid rfl⟩
 rw [Htb.out] at hB0 hT1 hR1 hS1 ⊢
 go_wp2_with fail
 refine region_headsT (S:=fun X=>Below W.heap.size W X) 8 rfl (by kernel_rfl) (Below.refl _ _).drew fun hS=> ?_
 refine tk 0 18 (.agg C) hS ?_ rfl (yieldsIf_load (f:=oV) (l:=L) hAT (.tmp 1) rfl tb 0 rfl (fun X h=>(hT1.below h hT1.lt).at) HCe.out rfl)
 refine tk 1 19 (.agg C) hS ?_ rfl (yieldsIf_load (f:=oV) (l:=L) hAT (.tmp 1) rfl tb 0 rfl (fun X h=>(hT1.below h hT1.lt).at) HCe.out rfl)
 refine rdT 2 (fun K' hK=> ?_)
 refine cD 20 228 #[.agg C] ?_
 refine (tReached _ C T (HC.out.below (by rw [Htb.out];exact hB0.drew)) HT.out).mono ?_
 rintro e Wa ⟨pl,cl,rfl,hOl,hBl⟩
 have hS2:=hS.trans (hBl.mono hS.size)
 refine ⟨_,rfl,hK.out _ _ hS2 fun _=> ?_⟩
 clear hK hS
 simp only [sA,sB,sC]
 refine rdT 3 (fun K' hK=> ?_)
 refine cD 21 227 #[.agg C, .slice pl T.reach.length cl] ?_
 refine (tRefine Wa C T (HC.out.below (by rw [Htb.out];exact hB0.trans (hS2.mono (by omega)))) HT.out _ T.reach hOl.rd HT.out.reach).mono ?_
 rintro e Wb ⟨p1,c1,p2,c2,rfl,hO1,hO2,hBb⟩
 have hS3:=hS2.trans (hBb.mono hS2.size)
 refine ⟨_,rfl,hK.out _ _ hS3 fun _=> ?_⟩
 clear hK hBl
 obtain ⟨BR,HBR⟩:∃p,Hid (T.refine T.reach=p):=⟨_,Lib.hid rfl⟩
 rw [HBR.out] at hO1 hO2 ⊢
 simp only [sA,sB,sC]
 refine tk 4 17 (.tuple #[.slice p1 BR.1.length c1, .slice p2 BR.2.length c2]) hS3 ?_
 refine tk 5 22 (.slice p1 BR.1.length c1) hS3 ?_
 refine tk 6 23 (.slice p2 BR.2.length c2) hS3 ?_
 refine tk 7 3 (.slice p1 BR.1.length c1) hS3 ?_
 refine headsT_tail (by kernel_rfl) ?_
 simp only [List.drop]
 replace hO1:=hO1.mono (show tb+2≤Wa.heap.size by have:=hS2.size;omega)
 replace hO2:=hO2.mono (show tb+2≤Wa.heap.size by have:=hS2.size;omega)
 clear hBb hS2 hOl
 have hTb:=hT1.below hS3 hT1.lt
 have hR3:=hR1.below hS3 hR1.lt
 have hB3:=hB0.trans (hS3.mono (by omega))
 have hCb:=HC.out.below (by rw [Htb.out];exact hB3)
 have hBok:BOk T.nx.length T.reach BR:=by rw [← HBR.out];exact T.refine_ok HT.out.reach
 have hsz:tb+2≤Wb.heap.size:=by have:=hS3.size;omega
 clear hS3 hT1 hR1 hB0
 go_upto_region 3 with (first
  | ((with_reducible refine zL hTb.at hAT HCe.out ?_))
  | (go_at_call 229;refine (tMerge Wb C T hCb HT.out _ _ BR.1 BR.2 T.reach hO1.rd hO2.rd HT.out.reach hBok).mono ?_;rintro e Wc ⟨q1,d1,q2,d2,rfl,hMc,hMk,hBc⟩))
 have hAC:AggT Tryz.prog 79 3:=aggD
 obtain ⟨M,HM⟩:∃M,Hid (T.merge (BR.1,BR.2)=M):=⟨_,Lib.hid rfl⟩
 have hMo:M.Ok T.cells 256:=by rw [← HM.out];exact mergeK_ok HT.out _ _ 256 (Nat.le_refl _)
 rw [HM.out] at hMc hMk ⊢
 obtain ⟨b,reps⟩:=BR
 simp only at hO1 hO2 hBok HM ⊢
 have hrB:=hO1.rd.below hBc
 have hrR:=hO2.rd.below hBc
 have hrC:=hMc.rd
 have hrK:=hMk.rd clL_len4
 have hT3:=hTb.below hBc hTb.lt
 have hR4:=hR3.below hBc hR3.lt
 have hB4:=hB3.trans (hBc.mono (by omega))
 have hsz4:tb+2≤Wc.heap.size:=Nat.le_trans hsz hBc.size
 have HMK:=Lib.hid hMk
 have hsz2:=Lib.hid hsz
 clear hO1 hO2 hMc hMk hBc hTb hR3 hB3 hsz hCb
 obtain ⟨R,HR⟩:∃n,Hid (reps.length=n):=⟨_,Lib.hid rfl⟩
 obtain ⟨n,Hn⟩:∃n,Hid (b.length=n):=⟨_,Lib.hid rfl⟩
 obtain ⟨m,Hm⟩:∃n,Hid (M.cells.length=n):=⟨_,Lib.hid rfl⟩
 obtain ⟨mc,Hmc⟩:∃n,Hid (M.cls.length=n):=⟨_,Lib.hid rfl⟩
 have hRn:R≤65535:=by rw [← HR.out];have h1:=hBok.rl;have h2:=HT.out.reach.len;have h3:=HT.out.nn;simp only at h1;omega
 have hn1:1≤n:=by rw [← Hn.out];have h1:=hBok.bl;have h2:=HT.out.n1;simp only at h1;omega
 have hm256:m≤256:=by rw [← Hm.out,hMo.cl];exact hMo.le
 have hb0:b.getD 0 0<R:=by rw [← HR.out];exact hBok.bb _ (getD_mem _ 0 0 (by rw [Hn.out];exact hn1))
 rw [Hn.out] at hrB ⊢
 rw [HR.out] at hrR ⊢
 rw [Hm.out] at hrC ⊢
 rw [Hmc.out] at hrK HMK ⊢
 have HMO:=Lib.hid hMo
 have HBOK:=Lib.hid hBok
 have HRC:=Lib.hid hrC
 have HRR:=Lib.hid hrR
 have HRK:=Lib.hid hrK
 clear hMo hBok hrC hrR hrK
 obtain ⟨B,HB⟩:∃B,Hid (Wc.heap.size=B):=⟨_,Lib.hid rfl⟩
 obtain ⟨bb,bo,rfl,hcb⟩:=rdN_at hrB 0 hn1
 have HRB:=Lib.hid hrB
 clear hrB
 have r7:Row oV (Wc.alloc (.cells #[.slice none 0 0, .slice none 0 0, .slice none 0 0] 79)) Wc.heap.size 79 [on,on,on]:=Row.new _ _ rfl
 have hBa:Below Wc.heap.size Wc (Wc.alloc (.cells #[.slice none 0 0, .slice none 0 0, .slice none 0 0] 79)):=(Below.refl _ _).alloc (Nat.le_refl _) _
 have hSa:(Wc.alloc (.cells #[.slice none 0 0, .slice none 0 0, .slice none 0 0] 79)).heap.size=Wc.heap.size+1:=World.size_alloc _ _
 go_upto_region 4 with ((with_reducible refine zS (l':=[⟨.slice q2 mc d2,rfl⟩,on,on]) r7 aggD ?_);(intro W6 hs6 hG6 hz6))
 have hB6:=hBa.grown hG6 (by omega) (fun k e=>by injection e with e;omega)
 rw [hSa] at hz6
 clear r7 hBa hSa hG6
 have hmk:=mkIntN W6 R (by omega)
 obtain ⟨MB,hMB⟩:∃C,Hid (C=((List.replicate R 0).map nV).toArray):=⟨_,Lib.hid rfl⟩
 rw [← hMB.out] at hmk
 have hpl:Row zV (W6.alloc (.cells MB 3)) W6.heap.size 3 (List.replicate R 0):=by
  rw [hMB.out]
  refine Row.new _ _ ?_
  simp [nV,zV]
 have hs7:=hs6.alloc (.cells MB 3)
 have hB7:=hB6.alloc (by omega) (.cells MB 3)
 have hz7:(W6.alloc (.cells MB 3)).heap.size=Wc.heap.size+2:=by rw [World.size_alloc,hz6]
 rw [hz6] at hpl
 go_upto_region 5 with (fail)
 generalize (W6.alloc (.cells MB 3))=W7 at hpl hs7 hB7 hz7 ⊢
 clear hmk hMB hs6 hB6 hz6
 clear W6 MB
 have cb:=hcb W7 hB7
 rw [Nat.add_zero] at cb
 obtain ⟨b0,Hb0⟩:∃n,Hid (b.getD 0 0=n):=⟨_,Lib.hid rfl⟩
 rw [Hb0.out] at cb hb0
 rw [HB.out] at hpl hs7 hB7 hz7 hsz4 ⊢
 have hor:Row nV (W7.alloc (.cells #[.int .i64 (b0:Int)] 3)) W7.heap.size 3 [b0]:=Row.new _ _ rfl
 rw [hz7] at hor
 have hor2:=own_of_row hor (Nat.le_refl _) (by unfold maxLen;simp)
 have hpl8:=hpl.alloc (.cells #[.int .i64 (b0:Int)] 3)
 have hs8:=hs7.alloc (.cells #[.int .i64 (b0:Int)] 3)
 have hB8:=hB7.alloc (by omega) (.cells #[.int .i64 (b0:Int)] 3)
 have hz8:(W7.alloc (.cells #[.int .i64 (b0:Int)] 3)).heap.size=B+3:=by rw [World.size_alloc,hz7]
 go_upto_region 6 with (fail)
 generalize (W7.alloc (.cells #[.int .i64 (b0:Int)] 3))=W8 at hor hor2 hpl8 hs8 hB8 hz8 ⊢
 have hCn:CnW Wc W8 B (B+2) ⟨.slice q2 mc d2,rfl⟩ ⟨[b0],List.replicate R 0,[]⟩ [] [] (some ⟨B+2,0,none⟩) 1 none 0 none 0 []:=
  ⟨hB8,hs8,hpl8,hor2,Own.nil _ _ _,F2.nil,Own.nil _ _ _,by omega,by omega⟩
 have HCB:Hid (∀X,Below B Wc X→X.cell? ⟨bb,bo,none⟩=some (.int .i64 (b0:Int))):=Lib.hid (by
  intro X hX
  rw [← HB.out] at hX
  have h:=hcb X hX
  rwa [Nat.add_zero,Hb0.out] at h)
 have HTR:Hid (TbR Wc tb T ⟨.slice pnn nn knn,hvn⟩ ⟨.slice paa nn kaa,hva⟩):=Lib.hid ⟨by rw [HL.out];exact hT3,h3⟩
 have HGH:Hid (T.canon=⟨M.cls,(canF T b reps M.cells (R - 0) 0 (ca0 b reps)).nx,(canF T b reps M.cells (R - 0) 0 (ca0 b reps)).ac⟩):=Lib.hid (by
  unfold TB.canon
  rw [HBR.out,HM.out]
  show canM T (b,reps) M=_
  unfold canM
  simp only [HR.out,Nat.sub_zero])
 have Htw:Hid (∀X,Below B Wc X→Below w.heap.size w X):=Lib.hid fun X hX=>by rw [Htb.out];exact hB4.trans (hX.mono (by omega))
 have hR4b:=hR4.lt
 rw [HB.out] at hR4b
 have HR4:=Lib.hid hR4
 clear hpl hs7 hB7 hz7 hor hor2 hpl8 hs8 hB8 hz8 cb hcb hR4 hT3 hB4
 go_wp2_with fail
 go_loopw [42] (fun s42 wr=>∃k:Nat,k≤R∧s42= .int .i64 k∧CnW Wc wr B (B+2) ⟨.slice q2 mc d2,rfl⟩ ⟨[b0],List.replicate k (-1)++List.replicate (R - k) 0,[]⟩ [] [] (some ⟨B+2,0,none⟩) 1 none 0 none 0 []) (fun s42 _=>R - (intOf s42).toNat)
 case atStart=>exact ⟨0,by omega,rfl,by simpa using hCn⟩
 case round=>
  clear hCn
  obtain ⟨k,hk,rfl,hCn⟩:=hrel
  by_cases hlt:k<R
  ·have hq:(k:Int)<(R:Int):=by omega
   have hlen:(List.replicate k (-1:Int)++List.replicate (R - k) 0).length=R:=by simp;omega
   have co:=rowI_at hCn.place k (by rw [hlen];exact hlt)
   have fo:=hCn.place.frozen k
   have hCn':=hCn.setPlace k (-1)
   have hset:(List.replicate k (-1:Int)++List.replicate (R - k) 0).set k (-1)=List.replicate (k+1) (-1)++List.replicate (R - (k+1)) 0:=by
    rw [show R - k=(R - (k+1))+1 by omega,List.replicate_succ (n:=R - (k+1)),List.set_append_right _ _ (by simp),List.length_replicate,Nat.sub_self,List.set_cons_zero,List.replicate_succ' (n:=k),List.append_assoc];rfl
   simp only [hset] at hCn'
   clear hCn hset hlen
   go_wp2_with fail
   go_roundw
   case rel=>exact ⟨k+1,by omega,by go_num,hCn'⟩
   case measure=>simp [intOf];omega
  ·obtain rfl:R=k:=by omega
   rw [Nat.sub_self,List.replicate_zero,List.append_nil] at hCn
   have cb:=HCB.out wr hCn.bel
   obtain ⟨v0,co⟩:∃v,wr.cell? ⟨B+1,b0,none⟩=some (.int .i64 v):=⟨_,rowI_at hCn.place b0 (by simpa using hb0)⟩
   have fo:=hCn.place.frozen b0
   have hb0i:(b0:Int)<(R:Int):=by omega
   have hCn':CnW Wc (wr.setCell ⟨B+1,b0,none⟩ (.int .i64 0)) B (B+2) ⟨.slice q2 mc d2,rfl⟩ (ca0 b reps).st (ca0 b reps).nx (ca0 b reps).ac (some ⟨B+2,0,none⟩) 1 none 0 none 0 []:=by
    have h:=hCn.setPlace b0 0
    unfold ca0
    rw [Hb0.out,HR.out]
    exact h
   have HOK0:Hid ((ca0 b reps).Ok R m 0):=Lib.hid (by have h:=ca0_ok (block:=b) (reps:=reps) (m:=m) (by rw [Hb0.out,HR.out];exact hb0);rwa [HR.out] at h)
   have hol:(ca0 b reps).st.ord.length=1:=rfl
   have Hol:=Lib.hid hol
   clear hCn hol
   generalize hA0:ca0 b reps=a0 at *
   have HA0:=Lib.hid hA0
   clear hA0
   go_wp2_with fail
   go_loopw [9,11] (fun s9 s11 wr=>∃(i:Nat) (a:CA) (po:Option Addr) (co:Nat) (pn:Option Addr) (cn:Nat) (pa:Option Addr) (ca:Nat) (us:List OC) (N:Nat),s9= .slice po a.st.ord.length co∧s11= .int .i64 i∧Hid (canF T b reps M.cells (R - 0) 0 a0=canF T b reps M.cells (R - i) i a)∧Hid (a.Ok R m i)∧CnW Wc wr B N ⟨.slice q2 mc d2,rfl⟩ a.st a.nx a.ac po co pn cn pa ca us) (fun _ s11 _=>R - (intOf s11).toNat)
   case atStart=>exact ⟨0,a0,some ⟨B+2,0,none⟩,1,none,0,none,0,[],B+2,by rw [Hol.out],rfl,Lib.hid rfl,HOK0,hCn'⟩
   case round=>
    clear hCn' HOK0 Hol cb co fo
    obtain ⟨i,a,po,co,pn,cn,pa,ca,us,N,rfl,rfl,HG,HOK,hCn⟩:=hrel
    have hoR:=HOK.out.st.o.len
    have hil:=HOK.out.il
    by_cases hlt:i<a.st.ord.length
    ·have hq:(i:Int)<(a.st.ord.length:Int):=by omega
     obtain ⟨og,rfl,hogB,hogl,_,hocap,hoat,_⟩:=hCn.ord.block (by omega)
     have co1:=ownN_at hCn.ord i hlt
     have hoi:a.st.ord.getD i 0<R:=HOK.out.st.o.lt _ (getD_mem _ _ _ hlt)
     obtain ⟨o,Ho⟩:∃o,Hid (a.st.ord.getD i 0=o):=⟨_,Lib.hid rfl⟩
     rw [Ho.out] at co1 hoi
     have hoii:(o:Int)<(R:Int):=by omega
     obtain ⟨rb,ro,rfl,hcs⟩:=rdN_at HRR.out o hoi
     have cs:=hcs wr (by rw [HB.out];exact hCn.bel)
     obtain ⟨s,Hs⟩:∃s,Hid (reps.getD o 0=s):=⟨_,Lib.hid rfl⟩
     rw [Hs.out] at cs
     have hs:s<nn:=by
      rw [← Hnn.out,← Hs.out]
      exact HT.out.reach.lt _ (HBOK.out.rm _ (getD_mem reps o 0 (by rw [HR.out];exact hoi)))
     obtain ⟨MB,hMB⟩:∃C,Hid (C=((List.replicate m 0).map nV).toArray):=⟨_,Lib.hid rfl⟩
     have hmk:∀w:World,(Instr.makeSlice 92 (.int .i64 (m:Int)) (.int .i64 (m:Int))).run Tryz.prog w= .ok (.slice (some ⟨w.heap.size,0,none⟩) m m) (w.alloc (.cells MB 3)):=fun w=>by rw [hMB.out];exact mkIntN w m (by omega)
     have hrw:Row nV (wr.alloc (.cells MB 3)) wr.heap.size 3 (List.replicate m 0):=by
      rw [hMB.out]
      exact Row.new _ _ rfl
     have hCn1:=(hCn.mono hCn.nN (Nat.le_refl _)).alloc (.cells MB 3)
     have hz1:(wr.alloc (.cells MB 3)).heap.size=wr.heap.size+1:=World.size_alloc _ _
     have hgo:(Value.slice (some ⟨og,0,none⟩) a.st.ord.length co).ownBlock≠some wr.heap.size:=fun e=>by have e':some og=some wr.heap.size:=e;injection e' with e';omega
     have hgn:(Value.slice pn us.length cn).ownBlock≠some wr.heap.size:=fun e=>by have:=(hCn.next.lt _ e).2;omega
     have hga:(Value.slice pa a.ac.length ca).ownBlock≠some wr.heap.size:=fun e=>by have:=(hCn.acc.lt _ e).2;omega
     have hsz1:=hCn.sz
     have hii:(i:Int)≤65535:=by omega
     go_upto_region 17 with (fail)
     obtain ⟨g1,Hg1⟩:∃g,Hid (wr.heap.size=g):=⟨_,Lib.hid rfl⟩
     rw [Hg1.out] at hrw hCn1 hz1 hgo hgn hga hsz1 ⊢
     generalize (wr.alloc (.cells MB 3))=W1 at hrw hCn1 hz1 ⊢
     have HGN:=Lib.hid hgn
     have HGA:=Lib.hid hga
     clear hmk hMB hCn co1 cs hcs hoat hogB hogl hocap hgn hga
     have hst0:Hid ((M.cells.take 0).foldl (fun st c=>cput st (toOf T.nx b s c)) {a.st with row:=[]}={a.st with row:=[]}):=Lib.hid rfl
     have hCn2:CnW Wc W1 B g1 ⟨.slice q2 mc d2,rfl⟩ {a.st with row:=[]} a.nx a.ac (some ⟨og,0,none⟩) co pn cn pa ca us:=⟨hCn1.bel,hCn1.dfa,hCn1.place,hCn1.ord,hCn1.next,hCn1.rows,hCn1.acc,hCn1.sz,hCn1.nN⟩
     have hlen0:({a.st with row:=[]}:CS).ord.length=a.st.ord.length:=rfl
     have Hlen0:=Lib.hid hlen0
     have hrow0:Row nV W1 g1 3 (({a.st with row:=[]}:CS).row++List.replicate (m - 0) 0):=by simpa using hrw
     have hgo0:(Value.slice (some ⟨og,0,none⟩) ({a.st with row:=[]}:CS).ord.length co).ownBlock≠some g1:=hgo
     clear hlen0 hCn1 hrw hgo
     generalize hst:({a.st with row:=[]}:CS)=st0 at *
     have Hst:=Lib.hid hst
     clear hst
     go_wp2_with fail
     go_loopw [9,72] (fun s9 s72 wq=>∃(j:Nat) (st:CS) (po:Option Addr) (co:Nat),j≤m∧s72= .int .i64 j∧s9= .slice po st.ord.length co∧Hid ((M.cells.take j).foldl (fun st c=>cput st (toOf T.nx b s c)) st0=st)∧CnW Wc wq B g1 ⟨.slice q2 mc d2,rfl⟩ st a.nx a.ac po co pn cn pa ca us∧Row nV wq g1 3 (st.row++List.replicate (m - j) 0)∧(Value.slice po st.ord.length co).ownBlock≠some g1∧g1+1≤wq.heap.size) (fun _ s72 _=>m - (intOf s72).toNat)
     case atStart=>exact ⟨0,st0,some ⟨og,0,none⟩,co,by omega,rfl,by rw [Hlen0.out],hst0,hCn2,hrow0,hgo0,by omega⟩
     case round=>
      clear hCn2 hrow0 hgo0 hz1 hst0
      obtain ⟨j,st,po,co,hj,rfl,rfl,HST,hCn,hrow,hog,hsg⟩:=hrel
      have hok:=crow_take HOK.out.st (n:=R) (nx:=T.nx) (block:=b) (fun s c=>by have h:=toOf_lt (nx:=T.nx) HBOK.out s c;simp only [HR.out] at h;exact h) s M.cells j (by rw [Hm.out];exact hj)
      rw [Hst.out,HST.out] at hok
      obtain ⟨hok1,hrl,hol⟩:=hok
      have hsR:=hok1.o.len
      by_cases hjl:j<m
      ·have hq2:(j:Int)<(m:Int):=by omega
       have hBel:Below Wc.heap.size Wc wr:=by rw [HB.out];exact hCn.bel
       have hW1:=Htw.out wr hCn.bel
       obtain ⟨cb1,co1,rfl,hcc⟩:=rdN_at HRC.out j hjl
       have cc:=hcc wr hBel
       obtain ⟨c,Hc⟩:∃c,Hid (M.cells.getD j 0=c):=⟨_,Lib.hid rfl⟩
       rw [Hc.out] at cc
       have hc:c<T.cells:=by rw [← Hc.out];exact HMO.out.cb _ (getD_mem _ _ _ (by rw [Hm.out];exact hjl))
       obtain ⟨nb,no,rq,rd,rfl,hnn,hnb,hcr,hrw⟩:=rows_at HN.out s (by rw [Hnn.out];exact hs)
       have cr:wr.cell? ⟨nb,no+s,none⟩=some (.slice rq (T.nx.getD s []).length rd):=(hW1.cell (p:=⟨nb,no+s,none⟩) hnb).trans hcr
       have c257:wr.cell? ⟨tb,257,none⟩=some (.slice (some ⟨nb,no,none⟩) nn knn):=(hCn.bel.cell (p:=⟨tb,257,none⟩) (by show tb<B;omega)).trans HTR.out.nx
       have hrl2:(T.nx.getD s []).length=T.cells:=HT.out.rw _ (getD_mem _ _ _ (by rw [Hnn.out];exact hs))
       have HRT:Hid (∀t∈T.nx.getD s [],t<nn):=Lib.hid (by rw [← Hnn.out];exact row_lt HT.out.rb _)
       have HTO:Hid (toOf T.nx b s c=b.getD ((T.nx.getD s []).getD c 0) 0):=Lib.hid rfl
       obtain ⟨row,Hrow⟩:∃r,Hid (T.nx.getD s []=r):=⟨_,Lib.hid rfl⟩
       rw [Hrow.out] at hrw HRT hrl2 cr HTO
       have hcl:c<row.length:=by omega
       obtain ⟨rn,Hrn⟩:∃r,Hid (row.length=r):=⟨_,Lib.hid rfl⟩
       rw [Hrn.out] at cr hrw hcl
       obtain ⟨tb2,to2,rfl,hct⟩:=rdN_at hrw c hcl
       have ct:=hct wr hW1
       obtain ⟨t,Ht⟩:∃t,Hid (row.getD c 0=t):=⟨_,Lib.hid rfl⟩
       have ht:t<nn:=by rw [← Ht.out];exact HRT.out _ (getD_mem _ _ _ (by rw [Hrn.out];exact hcl))
       rw [Ht.out] at ct HTO
       have hnn2:n=nn:=by rw [← Hn.out,← Hnn.out];exact HBOK.out.bl
       have htn:t<n:=by omega
       obtain ⟨bb2,bo2,e2,hcb⟩:=rdN_at HRB.out t htn
       injection e2 with e2
       injection e2 with e3 e4 _
       subst e3 e4
       have cb:=hcb wr hBel
       obtain ⟨q,Hq⟩:∃q,Hid (b.getD t 0=q):=⟨_,Lib.hid rfl⟩
       rw [Hq.out] at cb HTO
       have hqR:q<R:=by rw [← HTO.out,← HR.out];exact toOf_lt (nx:=T.nx) HBOK.out s c
       have HPUT:Hid ((M.cells.take (j+1)).foldl (fun st c=>cput st (toOf T.nx b s c)) st0=cput st q):=Lib.hid (by
        have hjm:j<M.cells.length:=by rw [Hm.out];exact hjl
        have e:M.cells[j]=c:=by rw [← Hc.out,List.getD_eq_getElem?_getD,List.getElem?_eq_getElem hjm];rfl
        rw [foldl_take_succ _ _ _ _ hjm,HST.out,e,HTO.out])
       have hpl:q<st.place.length:=by rw [hok1.pl];exact hqR
       have cp:=rowI_at hCn.place q hpl
       obtain ⟨pv,Hpv⟩:∃v,Hid (st.place.getD q 0=v):=⟨_,Lib.hid rfl⟩
       rw [Hpv.out] at cp
       have hqRi:(q:Int)<(R:Int):=by omega
       have hsi:(s:Int)<(nn:Int):=by omega
       have hti:(t:Int)<(n:Int):=by omega
       have hcri:(c:Int)<(rn:Int):=by omega
       have hlr:(st.row++List.replicate (m - j) 0).length=m:=by rw [List.length_append,hrl,List.length_replicate];omega
       have HRL:=Lib.hid hrl
       have HOK1:=Lib.hid hok1
       clear hcc hcr hrw hct hcb hnn hnb hW1 hrl2 hcl hrl hol hok1 hBel
       by_cases hneg:pv<0
       ·have fo:=hCn.place.frozen q
        have hCn3:=hCn.setPlace q (st.ord.length:Int)
        have hrow3:=hrow.grown (grown_cell wr (B+1) q (zV (st.ord.length:Int))) (by simp;omega)
        have hsz3:=Nat.le_trans hsg (grown_cell wr (B+1) q (zV (st.ord.length:Int))).size
        go_upto_region 23 with (fail)
        have hW:∃W,Hid (wr.setCell ⟨B+1,q,none⟩ (zV (st.ord.length:Int))=W):=⟨_,Lib.hid rfl⟩
        obtain ⟨W3,HW3⟩:=hW
        have hW3:wr.setCell ⟨B+1,q,none⟩ (.int .i64 (st.ord.length:Int))=W3:=HW3.out
        rw [HW3.out] at hCn3 hrow3 hsz3
        rw [hW3]
        clear hW3 HW3 cp cb ct c257 cr cc hCn hrow fo
        have hsi65:st.ord.length≤65535:=by omega
        have hszB:B+2≤W3.heap.size:=hCn3.sz
        have hO3:=hCn3.ord
        go_upto_region 24 with (at_builtin;(with_reducible refine append_who eltNI (.tmp 98) (.tmp 100) ?_ ?_ nV_one ?_ hO3 q _ ?_ _ ?_ ?_ ?_ ?_ (st.ord++[q]) ?_ ?_);rfl;rfl;rfl;rfl;rfl;(show (st.ord.length+1) * 8≤_;omega);(show st.ord.length+1≤_;omega);(exact hszB);rfl;(intro p8 c8 W8 hO8 hG8 hw8))
        have hCn8:=hCn3.order hO8 hG8 hw8
        have hog8:(Value.slice p8 (st.ord++[q]).length c8).ownBlock≠some g1:=fun e=>by
         rcases hw8 _ e with h | h
         ·exact hog h
         ·omega
        have hrow8:=(hrow3.alloc (.cells #[.int .i64 (q:Int)] 3)).grown hG8 (fun e=>hog e.symm)
        have hsz8:g1+1≤W8.heap.size:=Nat.le_trans (Nat.le_trans hsz3 (by rw [World.size_alloc];omega)) hG8.size
        have cp:W8.cell? ⟨B+1,q,none⟩=some (.int .i64 (st.ord.length:Int)):=by
         have h:=rowI_at hCn8.place q (by rw [List.length_set];exact hpl)
         rw [getD_set _ _ _ _ _ hpl,if_pos rfl] at h
         exact h
        obtain ⟨v1,cj⟩:∃v,W8.cell? ⟨g1,j,none⟩=some (.int .i64 v):=⟨_,rowN_at hrow8 j (by rw [hlr];exact hjl)⟩
        have fj:=hrow8.frozen j
        have hrow9:=hrow8.set j st.ord.length
        rw [snoc_set HRL.out hjl] at hrow9
        have hCn9:=hCn8.row g1 j (.int .i64 (st.ord.length:Int)) (Nat.le_refl _) hsz1 hog8 HGN.out HGA.out
        have hsz9:=Nat.le_trans hsz8 (grown_cell W8 g1 j (.int .i64 (st.ord.length:Int))).size
        have hlo:(st.ord++[q]).length=st.ord.length+1:=by simp
        have Hlo:=Lib.hid hlo
        have Hneg:=Lib.hid hneg
        have HC9:Hid (CnW Wc (W8.setCell ⟨g1,j,none⟩ (.int .i64 (st.ord.length:Int))) B g1 ⟨.slice q2 mc d2,rfl⟩ (cput st q) a.nx a.ac p8 c8 pn cn pa ca us∧Row nV (W8.setCell ⟨g1,j,none⟩ (.int .i64 (st.ord.length:Int))) g1 3 ((cput st q).row++List.replicate (m - (j+1)) 0)∧(cput st q).ord.length=st.ord.length+1∧(Value.slice p8 (cput st q).ord.length c8).ownBlock≠some g1):=Lib.hid (by
         have e:cput st q=⟨st.ord++[q],st.place.set q (st.ord.length:Nat),st.row++[st.ord.length]⟩:=by unfold cput;rw [Hpv.out,if_pos Hneg.out]
         rw [e]
         exact ⟨hCn9.cast rfl rfl,hrow9,hlo,hog8⟩)
        clear hCn3 hrow3 hsz3 hO3 hG8 hw8 hCn8 hog8 hrow8 hsz8 hrow9 hCn9 hlo hO8 hlr hneg hpl hog
        go_wp2_with fail
        go_roundw
        case rel=>exact ⟨_,_,_,_,_,⟨j+1,by omega,by go_num,cput st q,p8,c8,by rw [HC9.out.2.2.1],HPUT,HC9.out.1,HC9.out.2.1,HC9.out.2.2.2,by simpa using hsz9⟩,rfl,rfl,rfl,rfl,rfl⟩
        case measure=>simp [intOf];omega
       ·obtain ⟨v1,cj⟩:∃v,wr.cell? ⟨g1,j,none⟩=some (.int .i64 v):=⟨_,rowN_at hrow j (by rw [hlr];exact hjl)⟩
        have fj:=hrow.frozen j
        obtain ⟨pq,Hpq⟩:∃n:Nat,Hid (pv=(n:Int)):=⟨pv.toNat,Lib.hid (Int.toNat_of_nonneg (by omega)).symm⟩
        rw [Hpq.out] at cp
        have hrow9:=hrow.set j pq
        rw [snoc_set HRL.out hjl] at hrow9
        have hCn9:=hCn.row g1 j (.int .i64 (pq:Int)) (Nat.le_refl _) hsz1 hog HGN.out HGA.out
        have hsz9:=Nat.le_trans hsg (grown_cell wr g1 j (.int .i64 (pq:Int))).size
        have hpq:¬(pq:Int)<0:=by omega
        have hneg':¬st.place.getD q 0<0:=by rw [Hpv.out];exact hneg
        have HC9:Hid (CnW Wc (wr.setCell ⟨g1,j,none⟩ (.int .i64 (pq:Int))) B g1 ⟨.slice q2 mc d2,rfl⟩ (cput st q) a.nx a.ac po co pn cn pa ca us∧Row nV (wr.setCell ⟨g1,j,none⟩ (.int .i64 (pq:Int))) g1 3 ((cput st q).row++List.replicate (m - (j+1)) 0)∧(cput st q).ord.length=st.ord.length∧(Value.slice po (cput st q).ord.length co).ownBlock≠some g1):=Lib.hid (by
         have e:cput st q={st with row:=st.row++[pq]}:=by
          unfold cput;rw [if_neg hneg',Hpv.out,Hpq.out];rfl
         rw [e]
         exact ⟨hCn9.cast rfl rfl,hrow9,rfl,hog⟩)
        clear hCn hrow hCn9 hrow9 hneg hneg' hlr hpl hog
        go_wp2_with fail
        go_roundw
        case rel=>exact ⟨j+1,cput st q,po,co,by omega,by go_num,by rw [HC9.out.2.2.1],HPUT,HC9.out.1,HC9.out.2.1,HC9.out.2.2.2,hsz9⟩
        case measure=>simp [intOf];omega
      ·obtain rfl:m=j:=by omega
       rw [Nat.sub_self,List.replicate_zero,List.append_nil] at hrow
       have HCR:Hid (crow T.nx b s M.cells a.st=st):=Lib.hid (by
        have h:=HST.out
        rw [List.take_of_length_le (by rw [Hm.out];exact Nat.le_refl _)] at h
        unfold crow
        rw [Hst.out];exact h)
       have hul:us.length=i:=by rw [f2_length hCn.rows];exact HOK.out.nl
       have Hul:=Lib.hid hul
       have hulb:us.length≤65535:=by omega
       have c1B:wr.cell? ⟨B,1,none⟩=some (.slice pn us.length cn):=hCn.dfa.cell? 1
       have f1B:=hCn.dfa.frozen 1
       have hszB:B+2≤wr.heap.size:=hCn.sz
       have hO3:=hCn.next
       obtain ⟨y,Hy⟩:∃y:OC,Hid (y.1= .slice (some ⟨g1,0,none⟩) m m):=⟨⟨.slice (some ⟨g1,0,none⟩) m m,rfl⟩,Lib.hid rfl⟩
       have hyo:Value.slice (some ⟨g1,0,none⟩) m m=oV y:=Hy.out.symm
       obtain ⟨us2,Hus2⟩:∃l,Hid (us++[y]=l):=⟨_,Lib.hid rfl⟩
       have hul2:us2.length=us.length+1:=by rw [← Hus2.out];simp
       have Hul2:=Lib.hid hul2
       have HDF:=Lib.hid (hCn.alloc (.cells #[.slice (some ⟨g1,0,none⟩) m m] 92)).dfa
       have HNB:Hid (some B≠(Value.slice pn us.length cn).ownBlock):=Lib.hid (fun e=>by have:=(hO3.lt _ e.symm).1;omega)
       have Hyo:=Lib.hid hyo
       clear hul hyo hul2
       go_upto_region 27 with (at_builtin;(with_reducible refine append_one eltNN (.tmp 111) (.tmp 113) ?_ ?_ oV_one ?_ hO3 y _ ?_ _ ?_ ?_ ?_ ?_ us2 ?_ ?_);rfl;rfl;rfl;(exact Hyo.out);rfl;(show (us.length+1) * 24≤_;omega);(show us.length+1≤_;omega);(exact hszB);(exact Hus2.out);(intro p8 c8 W8 hO8 hB8 hG8);(have hd8:=HDF.out.grown hG8 HNB.out);(have c1B8:W8.cell? ⟨B,1,none⟩=some (.slice pn us.length cn):=hd8.cell? 1);(have f1B8:=hd8.frozen 1))
       have hrm:st.row.length=m:=hrl
       have hC10:CnW Wc (W8.setCell ⟨B,1,none⟩ (.slice p8 us2.length c8)) B W8.heap.size ⟨.slice q2 mc d2,rfl⟩ st (a.nx++[st.row]) a.ac po co p8 c8 pa ca us2:=by
        rw [← Hus2.out] at hO8 ⊢
        have hgs:=hG8.size
        rw [World.size_alloc] at hgs
        exact hCn.addRow hrow hsz1 hog (by omega) (by rw [hrm];exact Hy.out) hO8 hG8 (by omega) (by omega) (Nat.le_refl _)
       generalize (W8.setCell ⟨B,1,none⟩ (.slice p8 us2.length c8))=W10 at hC10 ⊢
       obtain ⟨N2,HN2⟩:∃N2,Hid (W8.heap.size=N2):=⟨_,Lib.hid rfl⟩
       rw [HN2.out] at hC10
       clear hd8 c1B8 f1B8 hO8 hG8 hB8 hO3 c1B f1B hszB hCn hrow hrl hrm
       have c2B:W10.cell? ⟨B,2,none⟩=some (.slice pa a.ac.length ca):=hC10.dfa.cell? 2
       have c258:W10.cell? ⟨tb,258,none⟩=some (.slice paa nn kaa):=(hC10.bel.cell (p:=⟨tb,258,none⟩) (by show tb<B;omega)).trans HTR.out.ac
       obtain ⟨ab,ao,rfl,hca⟩:=rdB_at HA.out s hs
       have cab:=hca W10 (Htw.out _ hC10.bel)
       obtain ⟨bz,Hbz⟩:∃z,Hid (T.ac.getD s false=z):=⟨_,Lib.hid rfl⟩
       rw [Hbz.out] at cab
       have hO10:=hC10.acc
       have hal:=HOK.out.al
       have hacl:(a.ac.length+1) * 1≤140737488355328:=by omega
       have hacl2:a.ac.length+1≤140737488355328:=by omega
       have hszB:B+2≤W10.heap.size:=hC10.sz
       obtain ⟨ac2,Hac2⟩:∃l,Hid (a.ac++[bz]=l):=⟨_,Lib.hid rfl⟩
       have HDF2:=Lib.hid (hC10.alloc (.cells #[.bool bz] 4)).dfa
       have HAB:Hid (some B≠(Value.slice pa a.ac.length ca).ownBlock):=Lib.hid (fun e=>by have:=(hO10.lt _ e.symm).1;omega)
       have hsi:(s:Int)<(nn:Int):=by omega
       have hal2:=Lib.hid hal
       have c2Bz:(W10.alloc (.cells #[.bool bz] 4)).cell? ⟨B,2,none⟩=some (.slice pa a.ac.length ca):=HDF2.out.cell? 2
       clear hal hca HDF HNB
       go_wp2_with fail
       go_region_law ((go_loud (refine step_append_drew (w:=W10) (f:=Value.bool) (base:=B+2) (l:=a.ac) (v:= .slice pa a.ac.length ca) eltNB (.tmp 117) (.tmp 123) 35 ?_ ?_ rfl bV_one ?_ hO10 bz (.bool bz) rfl 4 ?_ hacl hacl2 hszB ac2 Hac2.out ?_));rfl;rfl;rfl;rfl;(intro p9 c9 w9 hO9 hG9 hW9);(have hd9:=HDF2.out.grown hG9 HAB.out);(have c2B9:w9.cell? ⟨B,2,none⟩=some (.slice pa a.ac.length ca):=hd9.cell? 2);(have f2B9:=hd9.frozen 2))
       all_goals
        have HC11:Hid (CnW Wc (w9.setCell ⟨B,2,none⟩ (.slice p9 ac2.length c9)) B N2 ⟨.slice q2 mc d2,rfl⟩ (cstep T b reps M.cells a i).st (cstep T b reps M.cells a i).nx (cstep T b reps M.cells a i).ac po co p8 c8 p9 c9 us2∧(cstep T b reps M.cells a i).st.ord=st.ord):=Lib.hid (by
         have e:cstep T b reps M.cells a i=⟨st,a.nx++[st.row],a.ac++[bz]⟩:=by
          unfold cstep
          simp only [Ho.out,Hs.out,HCR.out,Hbz.out]
         rw [e]
         rw [← Hac2.out] at hO9 ⊢
         exact ⟨hC10.addAcc hO9 hG9,rfl⟩)
        have HG1:=Lib.hid (HG.out.trans (canF_step T b reps M.cells R i a hlt hoR))
        have HOK9:Hid ((cstep T b reps M.cells a i).Ok R m (i+1)):=Lib.hid (by
         have h:=HOK.out
         rw [← Hm.out] at h ⊢
         exact cstep_ok h (fun s c=>by have h:=toOf_lt (nx:=T.nx) HBOK.out s c;simp only [HR.out] at h;exact h) hlt)
        clear hO9 hG9 hW9 hd9 c2B9 f2B9 c2Bz cab c258 c2B hC10
        go_wp2
        go_roundw
        case rel=>exact ⟨i+1,cstep T b reps M.cells a i,po,co,p8,c8,p9,c9,us2,N2,by rw [HC11.out.2],by go_num,HG1,HOK9,HC11.out.1⟩
        case measure=>simp [intOf];omega
    ·have hq:¬(i:Int)<(a.st.ord.length:Int):=by omega
     have HE:Hid (T.canon=⟨M.cls,a.nx,a.ac⟩):=Lib.hid (by rw [HGH.out,HG.out,canF_end _ _ _ _ _ _ _ (by omega)])
     have hdf:=hCn.dfa
     have hWw:=Htw.out _ hCn.bel
     have hR9:=HR4.out.below hCn.bel hR4b
     have hbelW:Below Wc.heap.size Wc wr:=by rw [HB.out];exact hCn.bel
     have hul:us.length=a.nx.length:=f2_length hCn.rows
     have HCN:=Lib.hid hCn
     have Hul:=Lib.hid hul
     clear hCn hul
     obtain ⟨L3,HL3⟩:∃l:List OC,Hid (l=[⟨.slice q2 mc d2,rfl⟩,⟨.slice pn us.length cn,rfl⟩,⟨.slice pa a.ac.length ca,rfl⟩]):=⟨_,Lib.hid rfl⟩
     rw [← HL3.out] at hdf
     obtain ⟨C3,HC3⟩:∃C,Hid (C=(L3.map oV).toArray):=⟨_,Lib.hid rfl⟩
     have hL3:L3.length=3:=by rw [HL3.out];rfl
     have hA3:AggT Tryz.prog 79 L3.length:=by rw [hL3];exact aggD
     have hLz:L3.length=[on,on,on].length:=hL3
     go_wp2_with (first
      | ((with_reducible refine zL hdf.at hA3 HC3.out ?_))
      | ((with_reducible refine store_agg (f:=oV) (l:=[on,on,on]) (l':=L3) (t:=79) (C:=C3) hA3 (.tmp 2) (.tmp 126) ?_ ?_ (tb+1) ?_ HC3.out ?_ hR9 hLz oV_one ?_);rfl;rfl;rfl;rfl;(intro W9 hs9 hG9 hz9)))
     have hBf:Below w.heap.size w W9:=hWw.grown hG9 hWw.size (fun k e=>by injection e with e;rw [Htb.out];omega)
     refine bodyPost_ret (results_agg (f:=oV) (l:=L3) rfl _ hA3 (tb+1) 0 rfl hs9.at) rfl ?_
     have hN9:=HCN.out.next.kept hG9 (fun g hg e=>by have:=(HCN.out.next.lt g hg).1;injection e with e;omega)
     have hA9:=HCN.out.acc.kept hG9 (fun g hg e=>by have:=(HCN.out.acc.lt g hg).1;injection e with e;omega)
     have hK9:=(HMK.out.below' hbelW).grown hG9 (fun g hg e=>by have h1:=(HMK.out.lt g hg).1;have h2:=hsz2.out;injection e with e;omega)
     refine ⟨_,rfl,fun X hX=> ?_,hBf⟩
     rw [HE.out]
     replace hN9:=hN9.keepT hX (by decide)
     replace hA9:=hA9.keepT hX (by decide)
     replace hK9:=hK9.keepT hX (by decide)
     refine ⟨_,_,_,by rw [HL3.out];rfl,hK9.rd clL_len4,?_,hA9.rd⟩
     rcases hN9.rd with ⟨p0,e0,e1⟩ | ⟨b1,o1,c1,e1,e2,e3,e4⟩
     ·refine .inl ⟨p0,e0,?_⟩
      have hul:=Hul.out
      rw [e1] at hul
      exact List.length_eq_zero_iff.1 hul.symm
     ·refine .inr ⟨b1,o1,c1,by rw [← Hul.out];exact e1,by rw [← Hul.out];exact e2,fun k hk=> ?_,e4⟩
      have hku:k<us.length:=by rw [Hul.out];exact hk
      obtain ⟨g,u1,u2,u3,_,_,u6⟩:=f2_get HCN.out.rows k hku hk
      refine ⟨us[k].1,?_,?_⟩
      ·have h:=e3 k hku
       rw [List.getElem?_eq_getElem hku] at h
       exact h
      ·rw [u1]
       exact (own_of_row (base:=0) ((u2.grown hG9 (fun e=>by injection e with e;omega)).keepT hX (by decide)) (Nat.zero_le _) (by unfold maxLen;show a.nx[k].length≤_;omega)).rd
theorem tCanon (w:World) (C:Array Value) (T:TB) (hC:TbAt w C T) (hT:T.Ok):
  Calls Tryz.prog 177 #[.agg C] w fun e w'=>∃v,e= .returned v∧DfAt w' v T.canon∧Below w.heap.size w w':=
 (tCanonS w C T hC hT).mono fun _ w' ⟨v,h1,h2,h3⟩=>⟨v,h1,h2 w' (KeepT.refl w'),h3⟩
end Go.Proofs.YtncnfncglacheaaGreatDoor
namespace Go.Proofs.YtncnfncglacheaaGreatDoor
open Go Go.RowKit Mem
set_option maxRecDepth 100000
def DfRes (w':World) (v:Value):Except Nat DF→Prop
 | .ok D=>∃u,v= .tuple #[u, .int .i64 0]∧DfAt w' u D
 | .error n=>v= .tuple #[.agg #[.slice none 0 0, .slice none 0 0, .slice none 0 0], .int .i64 (n:Int)]
theorem DfRes.below {w w':World} {v:Value} {r:Except Nat DF} (h:DfRes w v r) (hb:Below w.heap.size w w'):DfRes w' v r:=by
 cases r with
 | error n=>exact h
 | ok D=>obtain ⟨u,h1,h2⟩:=h;exact ⟨u,h1,h2.below hb⟩
def slO3 (p1:Option Addr) (n1 k1:Nat) (p2:Option Addr) (n2 k2:Nat) (p3:Option Addr) (n3 k3:Nat):List OC:=[⟨.slice p1 n1 k1,rfl⟩,⟨.slice p2 n2 k2,rfl⟩,⟨.slice p3 n3 k3,rfl⟩]
theorem DfAt.parts {w:World} {v:Value} {D:DF} (h:DfAt w v D):∃p1 k1 p2 k2 p3 k3,v= .agg #[.slice p1 D.cls.length k1, .slice p2 D.nx.length k2, .slice p3 D.ac.length k3]:=by
 obtain ⟨vc,vn,va,rfl,h1,h2,h3⟩:=h
 obtain ⟨p1,k1,rfl⟩:=h1.slice
 obtain ⟨p2,k2,rfl⟩:=h2.slice
 obtain ⟨p3,k3,rfl⟩:=h3.slice
 exact ⟨_,_,_,_,_,_,rfl⟩
theorem on_cell {w:World} {b:Nat} {t:TypeId} (hr:Row oV w b t [on,on,on]) (i:Nat) (v:Value) (h:w.cell? ⟨b,i,none⟩=some v):v= .slice none 0 0:=by
 rw [hr.cell?] at h
 match i,h with
 | 0,h=>injection h with h;exact h.symm
 | 1,h=>injection h with h;exact h.symm
 | 2,h=>injection h with h;exact h.symm
 | n+3,h=>cases h
theorem rd_avoid {α:Type} {f:α→Value} {w w':World} {v:Value} {l:List α} {b:Nat} {t:TypeId} (h:Rd f w v l) (hf:∀x,f x≠ .slice none 0 0) (hr:Row oV w b t [on,on,on]) (hg:w.grownBy w' (some b)):Rd f w' v l:=by
 rcases h with hn | ⟨g,o,cap,rfl,hc,ha,hlt⟩
 ·exact .inl hn
 ·by_cases h0:0<l.length
  ·refine .inr ⟨g,o,cap,rfl,hc,ha.grown hg hlt (fun e=> ?_),Nat.lt_of_lt_of_le hlt hg.size⟩
   injection e with e
   subst e
   have:=ha 0 h0
   rw [List.getElem?_eq_getElem h0] at this
   exact hf _ (on_cell hr _ _ this)
  ·exact .inr ⟨g,o,cap,rfl,hc,fun i hi=>by omega,Nat.lt_of_lt_of_le hlt hg.size⟩
theorem DfAt.avoid {w w':World} {v:Value} {D:DF} {b:Nat} {t:TypeId} (h:DfAt w v D) (hD:D.Ok) (hr:Row oV w b t [on,on,on]) (hg:w.grownBy w' (some b)):DfAt w' v D:=by
 obtain ⟨vc,vn,va,rfl,h1,h2,h3⟩:=h
 refine ⟨vc,vn,va,rfl,?_,?_,rd_avoid h3 (fun x e=>by cases e) hr hg⟩
 ·rcases h1 with hn | ⟨g,o,cap,rfl,hc,ha,hlt⟩
  ·exact .inl hn
  ·refine .inr ⟨g,o,cap,rfl,hc,fun i hi=>(ha i hi).grown hg hlt (fun e=> ?_),Nat.lt_of_lt_of_le hlt hg.size⟩
   injection e with e
   subst e
   have:=ha i hi 0 (by show 0<4;omega)
   have:=on_cell hr _ _ this
   cases this
 ·rcases h2 with hn | ⟨g,o,cap,rfl,hc,ha,hlt⟩
  ·exact .inl hn
  ·refine .inr ⟨g,o,cap,rfl,hc,fun i hi=> ?_,Nat.lt_of_lt_of_le hlt hg.size⟩
   obtain ⟨u,e1,e2⟩:=ha i hi
   refine ⟨u,(World.cell?_of_block (a:=⟨g,o+i,none⟩) (hg.block g hlt (fun e=> ?_))).trans e1,rd_avoid e2 (fun x e=>by cases e) hr hg⟩
   injection e with e
   subst e
   have e3:=on_cell hr _ _ e1
   subst e3
   have hl:=hD.rw _ (List.getElem_mem hi)
   have hc1:=hD.c1
   rcases e2 with ⟨_,_,e4⟩ | ⟨_,_,_,e4,_⟩
   ·rw [e4] at hl;simp at hl;omega
   ·cases e4
set_option maxHeartbeats 8000000 in
theorem tLim (w:World) (C:Array Value) (T:TB) (hC:TbAt w C T) (hT:T.Ok):
  Calls Tryz.prog 187 #[.agg C] w fun e w'=>∃v,e= .returned v∧DfRes w' v (lim T)∧Below w.heap.size w w':=by
 have HC:=Lib.hid hC
 have HT:=Lib.hid hT
 obtain ⟨vn,va,hCe,_,_,h3⟩:=hC
 obtain ⟨L,HL⟩:∃L,Hid (tbL T vn va=L):=⟨_,Lib.hid rfl⟩
 have hLl:L.length=259:=by rw [← HL.out];exact tbL_length _ _ h3
 have hAT:AggT Tryz.prog 166 L.length:=by rw [hLl];exact aggTb
 rw [HL.out] at hCe
 clear hT hLl h3
 have hT0:Row oV (w.alloc (.cells C 166)) w.heap.size 166 L:=Row.new _ _ (by rw [hCe])
 have HCe:=Lib.hid hCe
 clear hCe
 go_enter Tryz.func187,Tryz.ntmps187
 go_upto_region 1 with (fail)
 have hB0:Below w.heap.size w ((w.alloc (.cells C 166)).alloc (.cells #[.slice none 0 0, .slice none 0 0, .slice none 0 0] 79)):=((Below.refl _ _).alloc (Nat.le_refl _) _).alloc (by simp) _
 have hT1:=hT0.alloc (.cells #[.slice none 0 0, .slice none 0 0, .slice none 0 0] 79)
 have hR1:Row oV ((w.alloc (.cells C 166)).alloc (.cells #[.slice none 0 0, .slice none 0 0, .slice none 0 0] 79)) (w.heap.size+1) 79 [on,on,on]:=by
  have h:=Row.new (f:=oV) (w.alloc (.cells C 166)) (t:=79) (l:=[on,on,on]) _ rfl
  rw [World.size_alloc] at h
  exact h
 generalize ((w.alloc (.cells C 166)).alloc (.cells #[.slice none 0 0, .slice none 0 0, .slice none 0 0] 79))=W at hB0 hT1 hR1 ⊢
 clear hT0
 have hCW:=HC.out.below hB0
 obtain ⟨tb,Htb⟩:∃tb,Hid (w.heap.size=tb):=⟨_,Lib.hid rfl⟩
 rw [Htb.out] at hB0 hT1 hR1 ⊢
 obtain ⟨D,HD⟩:∃D,Hid (T.canon=D):=⟨_,Lib.hid rfl⟩
 have hcan:=tCanon W C T hCW HT.out
 rw [HD.out] at hcan
 have Hcan:=Lib.hid hcan
 clear hcan hCW
 go_upto_region 2 with (first
  | ((with_reducible refine load_agg (f:=oV) (l:=L) (C:=C) hAT (.tmp 1) ?_ ?_ tb 0 ?_ hT1.at HCe.out ?_);rfl;rfl;rfl)
  | (go_at_call 177;refine Hcan.out.mono ?_;rintro e Wc ⟨v,rfl,hv,hBc⟩;(obtain ⟨p1,k1,p2,k2,p3,k3,rfl⟩:=hv.parts);(have r7:Row oV (Wc.alloc (.cells #[.slice none 0 0, .slice none 0 0, .slice none 0 0] 79)) Wc.heap.size 79 [on,on,on]:=Row.new _ _ rfl);(have HV:=Lib.hid hv);clear hv)
  | ((with_reducible refine store_agg (f:=oV) (l:=[on,on,on]) (l':=slO3 p1 D.cls.length k1 p2 D.nx.length k2 p3 D.ac.length k3) (t:=79) (C:= #[.slice p1 D.cls.length k1, .slice p2 D.nx.length k2, .slice p3 D.ac.length k3]) aggD (.tmp 4) (.tmp 6) ?_ ?_ Wc.heap.size ?_ ?_ ?_ r7 ?_ oV_one ?_);rfl;rfl;rfl;rfl;rfl;rfl;(intro W6 hs6 hG6 hz6)))
 have hBa:=(Below.refl Wc.heap.size Wc).alloc (Nat.le_refl _) (.cells #[.slice none 0 0, .slice none 0 0, .slice none 0 0] 79)
 have hSa:(Wc.alloc (.cells #[.slice none 0 0, .slice none 0 0, .slice none 0 0] 79)).heap.size=Wc.heap.size+1:=World.size_alloc _ _
 have hBx:=hBc.trans ((hBa.grown hG6 (by omega) (fun k e=>by injection e with e;omega)).mono hBc.size)
 have hR3:=hR1.below hBx hR1.lt
 have hV6:=HV.out.below (hBa.grown hG6 (by omega) (fun k e=>by injection e with e;omega))
 have hB6:=hB0.trans (hBx.mono (Nat.le_trans (by omega) (show tb+2≤W.heap.size from hR1.lt)))
 have hRl:=hR3.lt
 have hc1:W6.cell? ⟨Wc.heap.size,1,none⟩=some (.slice p2 D.nx.length k2):=by rw [hs6.cell?];rfl
 obtain ⟨n,Hn⟩:∃n,Hid (D.nx.length=n):=⟨_,Lib.hid rfl⟩
 have HL0:Hid (lim T=if n≤64 then .ok D else .error 2):=Lib.hid (by unfold lim;rw [HD.out,Hn.out])
 rw [Hn.out] at hs6 hc1 ⊢
 have HV6:=Lib.hid hV6
 obtain ⟨cw,Hcw⟩:∃n,Hid (Wc.heap.size=n):=⟨_,Lib.hid rfl⟩
 have hcw:tb+2≤cw:=by rw [← Hcw.out];have:=hR1.lt;have:=hBc.size;omega
 rw [Hcw.out] at hs6 hc1 ⊢
 have hsl:=hs6.lt
 clear hV6 hBa hSa hBx hG6 hz6 r7 hBc hR1 hT1
 by_cases h64:n≤64
 ·have hgt:decide ((n:Int)>64)=false:=decide_eq_false (by omega)
  have hgt2:¬(64:Int)<(n:Int):=by omega
  have hres:=HL0.out
  rw [if_pos h64] at hres
  have Hres:=Lib.hid hres
  clear hres
  go_wp2_with (first
   | ((with_reducible refine load_agg (f:=oV) (l:=slO3 p1 D.cls.length k1 p2 n k2 p3 D.ac.length k3) (C:= #[.slice p1 D.cls.length k1, .slice p2 n k2, .slice p3 D.ac.length k3]) aggD (.tmp 4) ?_ ?_ cw 0 ?_ hs6.at ?_ ?_);rfl;rfl;rfl;rfl)
   | ((with_reducible refine store_agg (f:=oV) (l:=[on,on,on]) (l':=slO3 p1 D.cls.length k1 p2 n k2 p3 D.ac.length k3) (t:=79) (C:= #[.slice p1 D.cls.length k1, .slice p2 n k2, .slice p3 D.ac.length k3]) aggD (.tmp 2) (.tmp 12) ?_ ?_ (tb+1) ?_ ?_ ?_ hR3 ?_ oV_one ?_);rfl;rfl;rfl;rfl;rfl;rfl;(intro W9 hs9 hG9 hz9)))
  have hBf:Below tb w W9:=hB6.grown hG9 (by omega) (fun k e=>by injection e with e;omega)
  refine bodyPost_ret (v:= .tuple #[.agg #[.slice p1 D.cls.length k1, .slice p2 n k2, .slice p3 D.ac.length k3], .int .i64 0]) (results_agg2 (f:=oV) (l:=slO3 p1 D.cls.length k1 p2 n k2 p3 D.ac.length k3) (t:=3) rfl _ aggD (tb+1) 0 rfl hs9.at) rfl ?_
  refine ⟨_,rfl,?_,by rw [Htb.out];exact hBf⟩
  rw [Hres.out]
  refine ⟨_,rfl,?_⟩
  have h:=HV6.out.avoid (by rw [← HD.out];exact HT.out.canon.1) hR3 hG9
  rw [Hn.out] at h
  exact h
 ·have hgt:decide ((n:Int)>64)=true:=decide_eq_true (by omega)
  have hgt2:(64:Int)<(n:Int):=by omega
  have hres:=HL0.out
  rw [if_neg h64] at hres
  have Hres:=Lib.hid hres
  clear hres
  go_wp2_with ((with_reducible refine store_agg (f:=oV) (l:=[on,on,on]) (l':=[on,on,on]) (t:=79) (C:= #[.slice none 0 0, .slice none 0 0, .slice none 0 0]) aggD (.tmp 2) (.tmp 11) ?_ ?_ (tb+1) ?_ ?_ ?_ hR3 ?_ oV_one ?_);rfl;rfl;rfl;rfl;rfl;rfl;(intro W9 hs9 hG9 hz9))
  have hBf:Below tb w W9:=hB6.grown hG9 (by omega) (fun k e=>by injection e with e;omega)
  refine bodyPost_ret (v:= .tuple #[.agg #[.slice none 0 0, .slice none 0 0, .slice none 0 0], .int .i64 2]) (results_agg2 (f:=oV) (l:=[on,on,on]) (t:=3) rfl _ aggD (tb+1) 0 rfl hs9.at) rfl ?_
  exact ⟨_,rfl,by rw [Hres.out];rfl,by rw [Htb.out];exact hBf⟩
set_option maxHeartbeats 8000000 in
theorem tCanonV (w:World) (v:Value) (D:DF) (hv:DfAt w v D) (hV:D.V) (hTab:Tab w) (htl:1<w.heap.size):
  Calls Tryz.prog 175 #[v] w fun e w'=>∃v,e= .returned v∧DfRes w' v (.ok (tabOf D).canon)∧Below w.heap.size w w':=by
 have HV:=Lib.hid hV
 have HA:=Lib.hid hv
 have HTab:=Lib.hid hTab
 obtain ⟨p1,k1,p2,k2,p3,k3,rfl⟩:=hv.parts
 obtain ⟨n1,Hn1⟩:∃n,Hid (D.cls.length=n):=⟨_,Lib.hid rfl⟩
 obtain ⟨n2,Hn2⟩:∃n,Hid (D.nx.length=n):=⟨_,Lib.hid rfl⟩
 obtain ⟨n3,Hn3⟩:∃n,Hid (D.ac.length=n):=⟨_,Lib.hid rfl⟩
 rw [Hn1.out,Hn2.out,Hn3.out] at HA ⊢
 clear hv hV hTab
 go_enter Tryz.func175,Tryz.ntmps175
 go_upto_region 1 with (fail)
 have hD0:Row oV ((w.alloc (.cells #[.slice p1 n1 k1, .slice p2 n2 k2, .slice p3 n3 k3] 79)).alloc (.cells #[.slice none 0 0, .slice none 0 0, .slice none 0 0] 79)) w.heap.size 79 (slO3 p1 n1 k1 p2 n2 k2 p3 n3 k3):=(Row.new w (.cells #[.slice p1 n1 k1, .slice p2 n2 k2, .slice p3 n3 k3] 79) rfl).alloc _
 have hR1:Row oV ((w.alloc (.cells #[.slice p1 n1 k1, .slice p2 n2 k2, .slice p3 n3 k3] 79)).alloc (.cells #[.slice none 0 0, .slice none 0 0, .slice none 0 0] 79)) (w.heap.size+1) 79 [on,on,on]:=by
  have h:=Row.new (f:=oV) (w.alloc (.cells #[.slice p1 n1 k1, .slice p2 n2 k2, .slice p3 n3 k3] 79)) (t:=79) (l:=[on,on,on]) _ rfl
  rw [World.size_alloc] at h
  exact h
 have hB0:Below w.heap.size w ((w.alloc (.cells #[.slice p1 n1 k1, .slice p2 n2 k2, .slice p3 n3 k3] 79)).alloc (.cells #[.slice none 0 0, .slice none 0 0, .slice none 0 0] 79)):=((Below.refl _ _).alloc (Nat.le_refl _) _).alloc (by simp) _
 generalize ((w.alloc (.cells #[.slice p1 n1 k1, .slice p2 n2 k2, .slice p3 n3 k3] 79)).alloc (.cells #[.slice none 0 0, .slice none 0 0, .slice none 0 0] 79))=W at hB0 hD0 hR1 ⊢
 have hval:=dValid W _ D (HA.out.below hB0) HV.out
 have Hval:=Lib.hid hval
 have htl':=Lib.hid htl
 obtain ⟨tb,Htb⟩:∃tb,Hid (w.heap.size=tb):=⟨_,Lib.hid rfl⟩
 rw [Htb.out] at hB0 hD0 hR1 ⊢
 clear hval htl
 go_upto_region 3 with (first
  | ((with_reducible refine load_agg (f:=oV) (l:=slO3 p1 n1 k1 p2 n2 k2 p3 n3 k3) (C:= #[.slice p1 n1 k1, .slice p2 n2 k2, .slice p3 n3 k3]) aggD (.tmp 1) ?_ ?_ tb 0 ?_ hD0.at ?_ ?_);rfl;rfl;rfl;rfl)
  | (go_at_call 69;refine Hval.out.mono ?_;rintro e Wb ⟨rfl,hBb⟩))
 have hDb:=hD0.below hBb hD0.lt
 have hRb:=hR1.below hBb hR1.lt
 have hRl:=hR1.lt
 have hBw:Below tb w Wb:=hB0.trans (hBb.mono (by omega))
 have htab:=dTable Wb _ D (HA.out.below (by rw [Htb.out];exact hBw)) HV.out.c256 (HTab.out.below (by rw [Htb.out];exact hBw) htl'.out)
 have Htab:=Lib.hid htab
 have HOKT:=Lib.hid (tabOf_ok HV.out.toOk)
 clear htab hD0 hB0 hBb hR1
 go_wp2_with (first
  | ((with_reducible refine load_agg (f:=oV) (l:=slO3 p1 n1 k1 p2 n2 k2 p3 n3 k3) (C:= #[.slice p1 n1 k1, .slice p2 n2 k2, .slice p3 n3 k3]) aggD (.tmp 1) ?_ ?_ tb 0 ?_ hDb.at ?_ ?_);rfl;rfl;rfl;rfl)
  | (go_at_call 70;refine Htab.out.mono ?_;rintro e Wc ⟨C,rfl,hC,hBc⟩)
  | (go_at_call 177;refine (tCanon Wc C _ hC HOKT.out).mono ?_;rintro e Wd ⟨v,rfl,hv,hBd⟩;(obtain ⟨q1,j1,q2,j2,q3,j3,rfl⟩:=hv.parts);(have hRd:=hRb.below (hBc.trans (hBd.mono hBc.size)) (by have:=hRb.lt;omega)))
  | ((with_reducible refine store_agg (f:=oV) (l:=[on,on,on]) (l':=slO3 q1 (tabOf D).canon.cls.length j1 q2 (tabOf D).canon.nx.length j2 q3 (tabOf D).canon.ac.length j3) (t:=79) (C:= #[.slice q1 (tabOf D).canon.cls.length j1, .slice q2 (tabOf D).canon.nx.length j2, .slice q3 (tabOf D).canon.ac.length j3]) aggD (.tmp 2) (.tmp 10) ?_ ?_ (tb+1) ?_ ?_ ?_ hRd ?_ oV_one ?_);rfl;rfl;rfl;rfl;rfl;rfl;(intro W9 hs9 hG9 hz9)))
 have hBf:Below tb w W9:=(hBw.trans ((hBc.trans (hBd.mono hBc.size)).mono (by have:=hRb.lt;omega))).grown hG9 (by have:=hRd.lt;omega) (fun k e=>by injection e with e;omega)
 refine bodyPost_ret (v:= .tuple #[.agg #[.slice q1 (tabOf D).canon.cls.length j1, .slice q2 (tabOf D).canon.nx.length j2, .slice q3 (tabOf D).canon.ac.length j3], .int .i64 0]) (results_agg2 (f:=oV) (l:=slO3 q1 (tabOf D).canon.cls.length j1 q2 (tabOf D).canon.nx.length j2 q3 (tabOf D).canon.ac.length j3) (t:=3) rfl _ aggD (tb+1) 0 rfl hs9.at) rfl ?_
 exact ⟨_,rfl,⟨_,rfl,hv.avoid HOKT.out.canon.1 hRd hG9⟩,by rw [Htb.out];exact hBf⟩
end Go.Proofs.YtncnfncglacheaaGreatDoor
namespace Go.Proofs.YtncnfncglacheaaGreatDoor
open Go Go.RowKit Mem
set_option maxRecDepth 100000
def setA (s:UInt64):Array Value:= #[.int .u64 (X s)]
theorem X_bit (s:UInt64) (q:Nat) (h:q<64):(bits .and .u64 (X s / 2 ^ q) 1==1)=bitS s q:=by
 rw [X_shr s q h,show (1:Int)=X 1 from rfl,X_and]
 unfold bitS
 rw [Bool.eq_iff_iff,beq_iff_eq,beq_iff_eq]
 exact ⟨fun e=>X_inj e,fun e=>by rw [e]⟩
structure TgW (w wr:World) (tb:Nat) (T:TB) (v1 v2:OC) (s o:UInt64):Prop where
 tab:TbR wr tb T v1 v2
 set:Row oV wr (tb+1) 284 [ow (X s)]
 out:Row oV wr (tb+2) 284 [ow (X 0)]
 cur:Row oV wr (tb+3) 284 [ow (X o)]
 bel:Below tb w wr
 sz:tb+4≤wr.heap.size
set_option maxHeartbeats 8000000 in
theorem tTargets (w:World) (C:Array Value) (T:TB) (hC:TbAt w C T) (hT:T.Ok) (h64:T.nx.length≤64) (s:UInt64) (b:Nat) (hb:b<256):
  Calls Tryz.prog 183 #[.agg C, .agg (setA s), .int .i64 (b:Int)] w fun e w'=>e= .returned (.agg (setA (T.targets s b)))∧Below w.heap.size w w':=by
 obtain ⟨⟨vn,hvn⟩,⟨va,hva⟩,hCe,h1,h2,h3⟩:=hC
 obtain ⟨pn,kn,rfl⟩:=h1.slice
 have HN:=Lib.hid h1
 have HT:=Lib.hid hT
 obtain ⟨n,Hn⟩:∃n,Hid (T.nx.length=n):=⟨_,Lib.hid rfl⟩
 rw [Hn.out] at HN hCe h64
 have hT0:Row oV (w.alloc (.cells C 166)) w.heap.size 166 (tbL T ⟨.slice pn n kn,hvn⟩ ⟨va,hva⟩):=Row.new w (.cells C 166) (by rw [hCe])
 have hS0:(w.alloc (.cells C 166)).heap.size=w.heap.size+1:=World.size_alloc _ _
 have hB0:Below w.heap.size w (w.alloc (.cells C 166)):=(Below.refl _ _).alloc (Nat.le_refl _) _
 clear h1 h2 hT hCe
 have HS0:=Lib.hid hS0
 clear hS0
 go_enter Tryz.func183,Tryz.ntmps183
 go_upto_region 2 with (fail)
 generalize w.alloc (.cells C 166)=W at hT0 hB0 HS0 ⊢
 have m1:Row oV (W.alloc (.cells (setA s) 284)) (w.heap.size+1) 284 [ow (X s)]:=by
  have h:=Row.new (f:=oV) W (t:=284) (l:=[ow (X s)]) (.cells (setA s) 284) rfl
  rwa [HS0.out] at h
 have z1:(W.alloc (.cells (setA s) 284)).heap.size=w.heap.size+2:=by rw [World.size_alloc,HS0.out]
 have t1:=hT0.alloc (.cells (setA s) 284)
 have b1:=hB0.alloc (by rw [HS0.out];omega) (.cells (setA s) 284)
 generalize (W.alloc (.cells (setA s) 284))=W1 at m1 z1 t1 b1 ⊢
 have m2:Row oV (W1.alloc (.cells #[.int .u64 0] 284)) (w.heap.size+2) 284 [ow (X 0)]:=by
  have h:=Row.new (f:=oV) W1 (t:=284) (l:=[ow (X 0)]) (.cells #[.int .u64 0] 284) rfl
  rwa [z1] at h
 have z2:(W1.alloc (.cells #[.int .u64 0] 284)).heap.size=w.heap.size+3:=by rw [World.size_alloc,z1]
 have t2:=t1.alloc (.cells #[.int .u64 0] 284)
 have m1':=m1.alloc (.cells #[.int .u64 0] 284)
 have b2:=b1.alloc (by rw [z1];omega) (.cells #[.int .u64 0] 284)
 generalize (W1.alloc (.cells #[.int .u64 0] 284))=W2 at m1' m2 z2 t2 b2 ⊢
 have m3:Row oV (W2.alloc (.cells #[.int .u64 0] 284)) (w.heap.size+3) 284 [ow (X (tgtK T s b 0))]:=by
  have h:=Row.new (f:=oV) W2 (t:=284) (l:=[ow (X 0)]) (.cells #[.int .u64 0] 284) rfl
  rwa [z2] at h
 have hJ:TgW w (W2.alloc (.cells #[.int .u64 0] 284)) w.heap.size T ⟨.slice pn n kn,hvn⟩ ⟨va,hva⟩ s (tgtK T s b 0):=⟨⟨t2.alloc _,h3⟩,m1'.alloc _,m2.alloc _,m3,b2.alloc (by rw [z2];omega) _,by rw [World.size_alloc,z2];omega⟩
 generalize (W2.alloc (.cells #[.int .u64 0] 284))=W3 at hJ ⊢
 clear m1 z1 t1 b1 m1' m2 z2 t2 b2 m3 hT0 hB0 HS0
 clear W W1 W2
 obtain ⟨tb,Htb⟩:∃tb,Hid (w.heap.size=tb):=⟨_,Lib.hid rfl⟩
 rw [Htb.out] at hJ ⊢
 rw [show tb+1+1+1=tb+3 from rfl,show tb+1+1=tb+2 from rfl]
 have c257:=hJ.tab.nx
 go_wp2_with fail
 go_loopw [12] (fun s12 wr=>∃(q:Nat) (o:UInt64),q≤n∧s12= .int .i64 q∧Hid (tgtK T s b q=o)∧TgW w wr tb T ⟨.slice pn n kn,hvn⟩ ⟨va,hva⟩ s o) (fun s12 _=>n - (intOf s12).toNat)
 case atStart=>exact ⟨0,_,by omega,rfl,Lib.hid rfl,hJ⟩
 case round=>
  clear hJ c257
  obtain ⟨q,o,hq,rfl,HO,hJ⟩:=hrel
  by_cases hlt:q<n
  ·have hqi:(q:Int)<(n:Int):=by omega
   have c0:wr.cell? ⟨tb+1,0,none⟩=some (.int .u64 (X s)):=hJ.set.cell? 0
   have c2:wr.cell? ⟨tb+3,0,none⟩=some (.int .u64 (X o)):=hJ.cur.cell? 0
   have f2:=hJ.cur.frozen 0
   have c257:=hJ.tab.nx
   have cb:=hJ.tab.c b hb
   have hX:=X_nonneg s
   have HB:=X_bit s q (by omega)
   have HT1:Hid (tgtK T s b (q+1)=if bitS s q=true then o ||| ((1:UInt64)<<<UInt64.ofNat (T.to q b)) else o):=Lib.hid (by rw [tgtK,HO.out])
   by_cases hbit:bitS s q=true
   ·have hcond:(bits .and .u64 (X s / 2 ^ q) 1==1)=true:=by rw [HB];exact hbit
    rw [if_pos hbit] at HT1
    have hW1:Below w.heap.size w wr:=by rw [Htb.out];exact hJ.bel
    obtain ⟨nb,no,rq,rd,rfl, -,hnb,hcr,hrw⟩:=rows_at HN.out q (by rw [Hn.out];exact hlt)
    have cr:wr.cell? ⟨nb,no+q,none⟩=some (.slice rq (T.nx.getD q []).length rd):=(hW1.cell (p:=⟨nb,no+q,none⟩) hnb).trans hcr
    have hrl2:(T.nx.getD q []).length=T.cells:=HT.out.rw _ (getD_mem _ _ _ (by rw [Hn.out];exact hlt))
    have HRT:Hid (∀t∈T.nx.getD q [],t<n):=Lib.hid (by rw [← Hn.out];exact row_lt HT.out.rb _)
    have hcT:T.cell.getD b 0<T.cells:=cell_lt HT.out b hb
    have HTO:Hid (T.to q b=(T.nx.getD q []).getD (T.cell.getD b 0) 0):=Lib.hid rfl
    obtain ⟨row,Hrow⟩:∃r,Hid (T.nx.getD q []=r):=⟨_,Lib.hid rfl⟩
    obtain ⟨c,Hc⟩:∃c,Hid (T.cell.getD b 0=c):=⟨_,Lib.hid rfl⟩
    rw [Hrow.out] at hrw HRT hrl2 cr HTO
    rw [Hc.out] at cb hcT HTO
    obtain ⟨rn,Hrn⟩:∃r,Hid (row.length=r):=⟨_,Lib.hid rfl⟩
    have hcl:c<rn:=by rw [← Hrn.out];omega
    rw [Hrn.out] at cr hrw
    obtain ⟨tb2,to2,rfl,hct⟩:=rdN_at hrw c hcl
    have ct:=hct wr hW1
    obtain ⟨t,Ht⟩:∃t,Hid (row.getD c 0=t):=⟨_,Lib.hid rfl⟩
    have ht:t<n:=by rw [← Ht.out];exact HRT.out _ (getD_mem _ _ _ (by rw [Hrn.out];exact hcl))
    rw [Ht.out] at ct HTO
    rw [HTO.out] at HT1
    have hsh:=X_pow t (by omega)
    have hor:=X_or o ((1:UInt64)<<<UInt64.ofNat t)
    obtain ⟨sh,Hsh⟩:∃z,Hid ((1:UInt64)<<<UInt64.ofNat t=z):=⟨_,Lib.hid rfl⟩
    obtain ⟨o2,Ho2⟩:∃z,Hid (o ||| sh=z):=⟨_,Lib.hid rfl⟩
    rw [Hsh.out] at hsh hor HT1
    rw [Ho2.out] at hor HT1
    have hci:(c:Int)<(rn:Int):=by omega
    have HJ:=Lib.hid hJ
    clear hct hcr hrw hnb hrl2 hcT hcl HB hJ hbit
    go_upto_region 6 with (fail)
    go_wp2_with fail
    go_region
    have HJ2:Hid (TgW w (wr.setCell ⟨tb+3,0,none⟩ (.int .u64 (X o2))).drew tb T ⟨.slice (some ⟨nb,no,none⟩) n kn,hvn⟩ ⟨va,hva⟩ s o2):=Lib.hid (by
     have hJ:=HJ.out
     have hg:wr.grownBy (wr.setCell ⟨tb+3,0,none⟩ (.int .u64 (X o2))).drew (some (tb+3)):=Mem.grown_drew (grown_cell wr (tb+3) 0 (.int .u64 (X o2)))
     have hz:=hJ.sz
     exact ⟨⟨hJ.tab.row.grown hg (fun e=>by injection e with e;omega),hJ.tab.cl⟩,hJ.set.grown hg (fun e=>by injection e with e;omega),hJ.out.grown hg (fun e=>by injection e with e;omega),(hJ.cur.set 0 (ow (X o2))).drew,hJ.bel.grown hg (by omega) (fun k e=>by injection e with e;omega),Nat.le_trans hz hg.size⟩)
    generalize (wr.setCell ⟨tb+3,0,none⟩ (.int .u64 (X o2))).drew=W9 at HJ2 ⊢
    clear c0 c2 f2 c257 cb cr ct hsh hor hcond
    go_wp2
    go_roundw
    case rel=>exact ⟨q+1,_,by omega,by go_num,HT1,HJ2.out⟩
    case measure=>simp [intOf];omega
   ·have hcond:(bits .and .u64 (X s / 2 ^ q) 1==1)=false:=by rw [HB];simpa using hbit
    rw [if_neg hbit] at HT1
    clear HB hbit
    go_wp2_with fail
    go_roundw
    case rel=>exact ⟨q+1,_,by omega,by go_num,HT1,hJ⟩
    case measure=>simp [intOf];omega
  ·obtain rfl:q=n:=by omega
   have HE:Hid (T.targets s b=o):=Lib.hid (by unfold TB.targets;rw [Hn.out];exact HO.out)
   have hcur:=hJ.cur
   have hout:=hJ.out
   have HJ:=Lib.hid hJ
   have aS:AggT Tryz.prog 284 1:=⟨fun _=>by kernel_rfl,fun _=>by kernel_rfl⟩
   clear hJ
   go_wp2_with (first
    | ((with_reducible refine load_agg (f:=oV) (l:=[ow (X o)]) (C:=setA o) aS (.tmp 7) ?_ ?_ (tb+3) 0 ?_ hcur.at ?_ ?_);rfl;rfl;rfl;rfl)
    | ((with_reducible refine store_agg (f:=oV) (l:=[ow (X 0)]) (l':=[ow (X o)]) (t:=284) (C:=setA o) aS (.tmp 6) (.tmp 38) ?_ ?_ (tb+2) ?_ ?_ ?_ hout ?_ oV_one ?_);rfl;rfl;rfl;rfl;rfl;rfl;(intro W9 hs9 hG9 hz9)))
   have hBf:Below tb w W9:=HJ.out.bel.grown hG9 (by have:=HJ.out.sz;omega) (fun k e=>by injection e with e;omega)
   refine bodyPost_ret (results_agg (f:=oV) (l:=[ow (X o)]) rfl _ aS (tb+2) 0 rfl hs9.at) rfl ?_
   exact ⟨by rw [HE.out];rfl,by rw [Htb.out];exact hBf⟩
set_option maxHeartbeats 8000000 in
theorem tSome (w:World) (C:Array Value) (T:TB) (hC:TbAt w C T) (hT:T.Ok) (h64:T.nx.length≤64) (s:UInt64):
  Calls Tryz.prog 186 #[.agg C, .agg (setA s)] w fun e w'=>e= .returned (.bool (T.some s))∧Below w.heap.size w w':=by
 obtain ⟨⟨vn,hvn⟩,⟨va,hva⟩,hCe,h1,h2,h3⟩:=hC
 obtain ⟨pa,ka,rfl⟩:=h2.slice
 have HA:=Lib.hid h2
 have HT:=Lib.hid hT
 obtain ⟨n,Hn⟩:∃n,Hid (T.nx.length=n):=⟨_,Lib.hid rfl⟩
 have han:T.ac.length=n:=by rw [← Hn.out];exact hT.ac
 rw [han] at HA hCe
 rw [Hn.out] at h64
 have HS:Hid (T.some s=(List.range n).any fun q=>T.ac.getD q false && bitS s q):=Lib.hid (by unfold TB.some;rw [Hn.out])
 have Han:=Lib.hid han
 have hT0:Row oV (w.alloc (.cells C 166)) w.heap.size 166 (tbL T ⟨vn,hvn⟩ ⟨.slice pa n ka,hva⟩):=Row.new w (.cells C 166) (by rw [hCe])
 have hS0:(w.alloc (.cells C 166)).heap.size=w.heap.size+1:=World.size_alloc _ _
 have hB0:Below w.heap.size w (w.alloc (.cells C 166)):=(Below.refl _ _).alloc (Nat.le_refl _) _
 clear h1 h2 hT hCe han
 have HS0:=Lib.hid hS0
 clear hS0
 go_enter Tryz.func186,Tryz.ntmps186
 go_upto_region 1 with (fail)
 generalize w.alloc (.cells C 166)=W at hT0 hB0 HS0 ⊢
 have m1:Row oV (W.alloc (.cells (setA s) 284)) (w.heap.size+1) 284 [ow (X s)]:=by
  have h:=Row.new (f:=oV) W (t:=284) (l:=[ow (X s)]) (.cells (setA s) 284) rfl
  rwa [HS0.out] at h
 have t1:TbR (W.alloc (.cells (setA s) 284)) w.heap.size T ⟨vn,hvn⟩ ⟨.slice pa n ka,hva⟩:=⟨hT0.alloc _,h3⟩
 have b1:=hB0.alloc (by rw [HS0.out];omega) (.cells (setA s) 284)
 generalize (W.alloc (.cells (setA s) 284))=W1 at m1 t1 b1 ⊢
 clear hT0 hB0 HS0
 obtain ⟨tb,Htb⟩:∃tb,Hid (w.heap.size=tb):=⟨_,Lib.hid rfl⟩
 have c0:W1.cell? ⟨w.heap.size+1,0,none⟩=some (.int .u64 (X s)):=m1.cell? 0
 have c258:=t1.ac
 rw [Htb.out] at c0 c258 b1 ⊢
 have hX:=X_nonneg s
 go_wp2_with fail
 go_loop [10] (fun s10=>∃q:Nat,q≤n∧s10= .int .i64 q∧Hid (((List.range q).any fun q=>T.ac.getD q false && bitS s q)=false)) (fun s10=>n - (intOf s10).toNat)
 case atStart=>exact ⟨0,by omega,rfl,Lib.hid rfl⟩
 case round=>
  obtain ⟨q,hq,rfl,HO⟩:=hrel
  by_cases hlt:q<n
  ·have hqi:(q:Int)<(n:Int):=by omega
   obtain ⟨ab,ao,rfl,hca⟩:=rdB_at HA.out q hlt
   have cab:=hca W1 (by rw [Htb.out];exact b1)
   have HB:=X_bit s q (by omega)
   obtain ⟨z,Hz⟩:∃z,Hid (T.ac.getD q false=z):=⟨_,Lib.hid rfl⟩
   obtain ⟨y,Hy⟩:∃z,Hid (bitS s q=z):=⟨_,Lib.hid rfl⟩
   rw [Hz.out] at cab
   rw [Hy.out] at HB
   have HN1:Hid (((List.range (q+1)).any fun q=>T.ac.getD q false && bitS s q)=(z && y)):=Lib.hid (by rw [List.range_succ,List.any_append,HO.out];simp only [List.any_cons,List.any_nil,Bool.or_false,Bool.false_or,Hz.out,Hy.out])
   have HE:Hid ((z && y)=true→T.some s=true):=Lib.hid (fun h=>by
    rw [HS.out]
    exact List.any_eq_true.2 ⟨q,List.mem_range.2 hlt,by rw [Hz.out,Hy.out];exact h⟩)
   clear hca
   cases z with
   | false=>
    clear HB
    go_wp2_with fail
    go_round
    case rel=>exact ⟨q+1,by omega,by go_num,Lib.hid (by rw [HN1.out];rfl)⟩
    case measure=>simp [intOf];omega
   | true=>
    cases y with
    | false=>
     go_wp2_with fail
     go_round
     case rel=>exact ⟨q+1,by omega,by go_num,Lib.hid (by rw [HN1.out];rfl)⟩
     case measure=>simp [intOf];omega
    | true=>
     go_wp2_with fail
     go_ret
     exact ⟨by rw [HE.out rfl];rfl,by rw [Htb.out];exact b1⟩
  ·obtain rfl:q=n:=by omega
   have HE:Hid (T.some s=false):=Lib.hid (by rw [HS.out];exact HO.out)
   go_wp2_with fail
   go_ret
   exact ⟨by rw [HE.out];rfl,by rw [Htb.out];exact b1⟩
end Go.Proofs.YtncnfncglacheaaGreatDoor
namespace Go.Proofs.YtncnfncglacheaaGreatDoor
open Go Go.RowKit Mem
set_option maxRecDepth 100000
end Go.Proofs.YtncnfncglacheaaGreatDoor
namespace Go.Proofs.YtncnfncglacheaaGreatDoor
open Go Go.RowKit Mem
set_option maxRecDepth 100000
structure NOw (w1:World) (B:Nat) (w:World) (g:Nat) (cs:List Cl) (vr ve:OC) (us:List OC) (rows:List (List Ce)) (ends:List Bool):Prop where
 cls:Row oV w g 65 (cs.flatMap clL)
 own:Mem.Own oV w B 62 vr.1 us
 each:F2 (fun (u:OC) (r:List Ce)=>OwnK 3 ceL w B 61 u.1 r) us rows
 ends:Mem.Own Value.bool w B 4 ve.1 ends
 ds:∀i j,i<us.length→j<us.length→i≠j→∀k,(us.getD i on).1.ownBlock=some k→(us.getD j on).1.ownBlock≠some k
 low:Below w1.heap.size w1 w
 lo:g<B∧w1.heap.size≤g∧B≤w.heap.size
theorem f2_of {α β:Type} {R:α→β→Prop}:∀{l:List α} {m:List β},l.length=m.length→(∀i (hi:i<l.length) (hj:i<m.length),R l[i] m[i])→F2 R l m
 | [],[],_,_=> .nil
 | [],_::_,h,_=>by simp at h
 | _::_,[],h,_=>by simp at h
 | a::l,b::m,h,hi=> .cons (hi 0 (by simp) (by simp)) (f2_of (by simpa using h) fun i h1 h2=>hi (i+1) (by simpa using h1) (by simpa using h2))
section
variable {w1 w w2:World} {B g:Nat} {cs:List Cl} {vr ve:OC} {us:List OC} {rows:List (List Ce)} {ends:List Bool}
theorem NOw.rowsT (h:NOw w1 B w g cs vr ve us rows ends):w.ownsRow B 62 1 vr.1 us.length (us.map oV):=h.own
theorem NOw.endsT (h:NOw w1 B w g cs vr ve us rows ends):w.ownsRow B 4 1 ve.1 ends.length (ends.map Value.bool):=h.ends
theorem NOw.keep (h:NOw w1 B w g cs vr ve us rows ends) (hb:Below w.heap.size w w2):NOw w1 B w2 g cs vr ve us rows ends:=
 ⟨h.cls.below hb h.cls.lt,h.own.below' hb,forall2_imp (fun _ _ d=>d.below' hb) h.each,h.ends.below' hb,h.ds,h.low.trans (hb.mono h.low.size),h.lo.1,h.lo.2.1,Nat.le_trans h.lo.2.2 hb.size⟩
theorem NOw.row (h:NOw w1 B w g cs vr ve us rows ends) {i:Nat} {u:OC} (hi:us[i]?=some u):∃r,rows[i]?=some r∧OwnK 3 ceL w B 61 u.1 r:=f2_nth h.each i u hi
theorem NOw.chgRow (h:NOw w1 B w g cs vr ve us rows ends) {i b:Nat} {u:OC} {r r':List Ce} (hi:us[i]?=some u) (hr0:OwnK 3 ceL w B 61 u.1 r) (hb:u.1.ownBlock=some b) (hG:w.grownBy w2 (some b)) (hr:OwnK 3 ceL w2 B 61 u.1 r'):NOw w1 B w2 g cs vr ve us (rows.set i r') ends:=by
 have hbB:=(World.ownsRow.lt hr0 b hb).1
 have hil:i<us.length:=(List.getElem?_eq_some_iff.1 hi).1
 have hgi:us.getD i on=u:=by rw [List.getD_eq_getElem?_getD,hi];rfl
 refine ⟨h.cls.grown hG (fun e=>by injection e with e;have:=h.lo.1;omega),ownsRow_keep h.rowsT fun k hk hl=>hG.block k hl fun e=>own_ne_own h.rowsT hr0 (by decide) k hk b hb (by injection e),?_,ownsRow_keep h.endsT fun k hk hl=>hG.block k hl fun e=>own_ne_own h.endsT hr0 (by decide) k hk b hb (by injection e),h.ds,h.low.grown hG h.low.size (fun k e=>by injection e with e;have:=h.lo.1;have:=h.lo.2.1;omega),h.lo.1,h.lo.2.1,Nat.le_trans h.lo.2.2 hG.size⟩
 have hself:us.set i u=us:=by
  apply List.ext_getElem?
  intro k
  by_cases hk:k=i
  ·subst hk;rw [List.getElem?_set_self hil,hi]
  ·rw [List.getElem?_set_ne (Ne.symm hk)]
 have:=f2_setx (S:=fun (u:OC) (r:List Ce)=>OwnK 3 ceL w2 B 61 u.1 r) i hr h.each fun j q y hj hq _ d=>ownsRow_keep d fun k hk hl=>hG.block k hl fun e=>by
  have hjl:j<us.length:=(List.getElem?_eq_some_iff.1 hq).1
  have hgj:us.getD j on=q:=by rw [List.getD_eq_getElem?_getD,hq];rfl
  injection e with e
  exact h.ds j i hjl hil hj k (by rw [hgj];exact hk) (by rw [hgi,e];exact hb)
 rw [hself] at this
 exact this
theorem NOw.chgEnds (h:NOw w1 B w g cs vr ve us rows ends) {ve':OC} {ends':List Bool} (hG:w.grownBy w2 ve.1.ownBlock) (he:Mem.Own Value.bool w2 B 4 ve'.1 ends'):NOw w1 B w2 g cs vr ve' us rows ends':=by
 refine ⟨h.cls.grown hG (fun e=>by have:=(World.ownsRow.lt h.endsT g e.symm).1;have:=h.lo.1;omega),ownsRow_keep h.rowsT fun k hk hl=>hG.block k hl fun e=>own_ne_own h.rowsT h.endsT (by decide) k hk k e.symm rfl,forall2_imp (fun _ _ d=>ownsRow_keep d fun k hk hl=>hG.block k hl fun e=>own_ne_own d h.endsT (by decide) k hk k e.symm rfl) h.each,he,h.ds,h.low.grown hG h.low.size (fun k e=>by have:=(World.ownsRow.lt h.endsT k e).1;have:=h.lo.1;have:=h.lo.2.1;omega),h.lo.1,h.lo.2.1,Nat.le_trans h.lo.2.2 hG.size⟩
theorem rdR_of {w:World} {vr:OC} {us:List OC} {rows:List (List Ce)} (ho:Rd oV w vr.1 us) (he:F2 (fun (u:OC) (r:List Ce)=>RdK 3 ceL w u.1 r) us rows):RdR w vr.1 rows:=by
 have hl:=forall2_length he
 rcases ho with ⟨p,e,e0⟩ | ⟨b,o,c,e,hc,ha,hb⟩
 ·subst e0
  refine .inl ⟨p,e,List.length_eq_zero_iff.1 (by rw [← hl];rfl)⟩
 ·refine .inr ⟨b,o,c,by rw [e,hl],by rw [← hl];exact hc,fun i hi=> ?_,hb⟩
  obtain ⟨u,hu,hr⟩:=f2_nth' he i rows[i] (List.getElem?_eq_getElem hi)
  have hiu:i<us.length:=by omega
  refine ⟨u.1,?_,hr⟩
  rw [ha i hiu,hu];rfl
theorem NOw.nz (h:NOw w1 B w g cs vr ve us rows ends) (h3:cs.length=3):NzAt w (.agg #[.slice (some ⟨g,0,none⟩) 3 3,vr.1,ve.1]) ⟨cs,rows,ends⟩:=by
 refine ⟨_,_,_,rfl,?_,rdR_of h.own.rd (forall2_imp (fun _ _ d=>OwnK.rd d ceL_len) h.each),h.ends.rd⟩
 have:=RdK.row (K:=4) (enc:=clL) (l:=cs) h.cls rfl (fun _ _=>rfl)
 rw [h3] at this
 exact this
end
theorem ceFlat:∀(l:List Ce) (i:Nat) (x x':Ce) (j:Nat) (u:OC),l[i]?=some x→j<3→ceL x'=(ceL x).set j u→((l.flatMap ceL).map oV).set (i * 3+j) u.1=((l.set i x').flatMap ceL).map oV
 | [],i,x,x',j,u,hi,_,_=>by simp at hi
 | a::l,0,x,x',j,u,hi,hj,hs=>by
  have he:a=x:=by simpa using hi
  subst he
  show (((a::l).flatMap ceL).map oV).set (0 * 3+j) u.1=((x'::l).flatMap ceL).map oV
  rw [List.flatMap_cons,List.flatMap_cons,List.map_append,List.map_append,Nat.zero_mul,Nat.zero_add,List.set_append_left _ _ (by rw [List.length_map,ceL_len];exact hj),hs,List.map_set]
  rfl
 | a::l,i+1,x,x',j,u,hi,hj,hs=>by
  have ih:=ceFlat l i x x' j u (by simpa using hi) hj hs
  show (((a::l).flatMap ceL).map oV).set ((i+1) * 3+j) u.1=((a::l.set i x').flatMap ceL).map oV
  rw [List.flatMap_cons,List.flatMap_cons,List.map_append,List.map_append,List.set_append_right _ _ (by rw [List.length_map,ceL_len];omega),List.length_map,ceL_len,show (i+1) * 3+j - 3=i * 3+j by omega,ih]
theorem ownK_setC {w:World} {B b n c:Nat} {l:List Ce} (h:OwnK 3 ceL w B 61 (.slice (some ⟨b,0,none⟩) n c) l) (i:Nat) (x x':Ce) (j:Nat) (u:OC) (hi:l[i]?=some x) (hj:j<3) (hs:ceL x'=(ceL x).set j u):OwnK 3 ceL (w.setCell ⟨b,i * 3+j,none⟩ u.1) B 61 (.slice (some ⟨b,0,none⟩) n c) (l.set i x'):=by
 have hn:n=l.length:=by
  rcases h.2 with ⟨h0,_⟩ | ⟨_,_,_,h0,_⟩
  ·cases h0
  ·cases h0;rfl
 subst hn
 unfold OwnK
 rw [List.length_set,← ceFlat l i x x' j u hi hj hs]
 exact ownsRow_set h _ _
theorem rMadeN (w:World) (p:Option Addr) (c:Nat) (l:List UInt8) (hv:Rd u8V w (.slice p l.length c) l):Calls Tryz.prog 9 #[.slice p l.length c] w fun e w'=>∃(B g:Nat) (pr pe:Option Addr) (kr ke:Nat) (us:List OC),e= .returned (.agg #[.slice (some ⟨g,0,none⟩) 3 3, .slice pr (mkStates l) kr, .slice pe (mkStates l) ke])∧NOw w B w' g [clOo,clOa,clOb] ⟨.slice pr (mkStates l) kr,rfl⟩ ⟨.slice pe (mkStates l) ke,rfl⟩ us (mkRows l (mkStates l)) (mkEnds l (mkStates l))∧us.length=mkStates l:=by
 refine (rMadeO w p c l hv).mono ?_
 rintro e w' ⟨B,g,nb,pr,pe,kr,ke,us,X2,X,rfl,hM,hB,hr,h1,h2,hG⟩
 have hwB:w.heap.size<B:=by have:=hM.lo.1;have:=hM.lo.2.1;omega
 refine ⟨B,g,pr,pe,kr,ke,us,rfl,⟨hM.cls.grown hG (fun e=>by injection e with e;omega),Own_far hM.own hwB hG,f2_of (by rw [hM.len,mkRows_length]) fun i hi hj=> ?_,Own_far hM.ends hwB hG,?_,hB.grown hG hB.size (fun k e=>by cases e;exact Nat.le_refl _),hM.lo.2.2.1,by omega,Nat.le_trans hM.lo.2.2.2.2 hG.size⟩,hM.len⟩
 ·have hg2:(mkRows l (mkStates l))[i]=mkRow l i 3:=by simp [mkRows]
  rw [hg2]
  exact (hM.each i hi).far hwB hG
 ·intro i j hi hj hij k hk
  have e1:us.getD i on=us[i]:=by rw [List.getD_eq_getElem?_getD,List.getElem?_eq_getElem hi];rfl
  have e2:us.getD j on=us[j]:=by rw [List.getD_eq_getElem?_getD,List.getElem?_eq_getElem hj];rfl
  rw [e1] at hk
  rw [e2]
  exact hM.ds i j hi hj hij k hk
end Go.Proofs.YtncnfncglacheaaGreatDoor
