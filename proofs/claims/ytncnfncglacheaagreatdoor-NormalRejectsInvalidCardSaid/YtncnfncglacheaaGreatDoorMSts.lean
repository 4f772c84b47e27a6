/- A program that is being built: from a line; the program that it becomes. -/
import Derived.Test.YtncnfncglacheaaGreatDoorMCells
import Derived.Test.YtncnfncglacheaaGreatDoorMUpd
import Derived.Test.YtncnfncglacheaaGreatDoorMIx
import Derived.Test.YtncnfncglacheaaGreatDoorMHeld
import Derived.Great.Walk
import Derived.Test.YtncnfncglacheaaGreatDoorMDial
import Derived.Test.YtncnfncglacheaaGreatDoorMHeldD
import Derived.Deep.DeepCutAuto
namespace Go.Proofs.YtncnfncglacheaaGreatDoor
open Go Go.RowKit Mem
set_option maxRecDepth 100000
def stCells (L:List St):List Value:=L.flatMap fun s=>s.cs.map oV
theorem stCells_length (L:List St):(stCells L).length=L.length * 33:=by
 induction L with
 | nil=>rfl
 | cons a l ih=>simp only [stCells,List.flatMap_cons,List.length_append,List.length_map,St.cs_length,List.length_cons] at ih ⊢;omega
theorem stCells_get (L:List St):∀(j:Nat) (s:St),L[j]?=some s→∀i,i<33→(stCells L)[j * 33+i]?=(s.cs[i]?).map oV:=by
 induction L with
 | nil=>intro j s h;simp at h
 | cons a l ih=>
  intro j s h i hi
  have hc:stCells (a::l)=(a.cs.map oV)++stCells l:=by simp [stCells]
  rw [hc]
  cases j with
  | zero=>
   simp only [List.getElem?_cons_zero,Option.some.injEq] at h
   subst h
   rw [List.getElem?_append_left (by rw [List.length_map,St.cs_length];omega),Nat.zero_mul,Nat.zero_add,List.getElem?_map]
  | succ j=>
   rw [List.getElem?_append_right (by rw [List.length_map,St.cs_length];omega),List.length_map,St.cs_length,show (j+1) * 33+i - 33=j * 33+i by omega]
   exact ih j s (by simpa using h) i hi
def Sts (w:World) (g:Nat) (L:List St):Prop:=∃cur,w.heap[g]?=some (.cells cur 98 (0,0))∧L.length * 33≤cur.size∧∀j s,L[j]?=some s→∀i,i<33→cur[j * 33+i]?=(s.cs[i]?).map oV
theorem Sts.lt {w:World} {g:Nat} {L:List St} (h:Sts w g L):g<w.heap.size:=by obtain ⟨cur,hg,_⟩:=h;exact (Array.getElem?_eq_some_iff.1 hg).1
theorem Sts.block {w w':World} {g:Nat} {L:List St} (h:Sts w g L) (hb:w'.heap[g]?=w.heap[g]?):Sts w' g L:=by obtain ⟨cur,hg,h2⟩:=h;exact ⟨cur,hb.trans hg,h2⟩
theorem Sts.below {w w':World} {B g:Nat} {L:List St} (h:Sts w g L) (hb:Below B w w') (hB:g<B):Sts w' g L:=h.block (hb.block g hB)
theorem Sts.at {w:World} {g:Nat} {L:List St} (h:Sts w g L) (j:Nat) (s:St) (hj:L[j]?=some s):At oV w g (j * 33) s.cs:=by
 obtain ⟨cur,hg,_,hc⟩:=h
 intro i hi
 rw [St.cs_length] at hi
 unfold World.cell?
 rw [hg]
 exact hc j s hj i hi
theorem Sts.new (w:World) (L:List St):Sts (w.alloc (.cells (stCells L).toArray 98)) w.heap.size L:=
 ⟨_,World.alloc_heap_new _ _,by rw [List.size_toArray,stCells_length];exact Nat.le_refl _,fun j s hj i hi=>by rw [List.getElem?_toArray];exact stCells_get L j s hj i hi⟩
theorem Sts.set {w:World} {g:Nat} {L:List St} (h:Sts w g L) (j:Nat) (s s':St) (k:Nat) (u:OC) (hj:L[j]?=some s) (hk:k<33) (hs:s'.cs=s.cs.set k u):Sts (w.setCell ⟨g,j * 33+k,none⟩ u.1) g (L.set j s'):=by
 obtain ⟨cur,hg,hl,hc⟩:=h
 have hjl:j<L.length:=(List.getElem?_eq_some_iff.1 hj).1
 have hgl:g<w.heap.size:=(Array.getElem?_eq_some_iff.1 hg).1
 refine ⟨cur.setIfInBounds (j * 33+k) u.1,?_,by rw [Array.size_setIfInBounds,List.length_set];exact hl,?_⟩
 ·simp only [World.setCell]
  rw [Array.getElem?_modify,if_pos rfl,hg]
  rfl
 ·intro j' s1 hj' i hi
  rw [Array.getElem?_setIfInBounds]
  by_cases he:j=j'
  ·subst he
   rw [List.getElem?_set_self hjl] at hj'
   cases hj'
   rw [hs]
   by_cases hki:k=i
   ·subst hki
    rw [if_pos rfl,if_pos (by omega),List.getElem?_set_self (by rw [St.cs_length];exact hk)]
    rfl
   ·rw [if_neg (by omega),List.getElem?_set_ne hki]
    exact hc j s hj i hi
  ·rw [List.getElem?_set_ne he] at hj'
   rw [if_neg (by omega)]
   exact hc j' s1 hj' i hi
theorem Sts.frozen {w:World} {g:Nat} {L:List St} (h:Sts w g L) (i:Nat):w.frozen? ⟨g,i,none⟩=false:=by
 obtain ⟨cur,hg,_⟩:=h
 unfold World.frozen?
 rw [hg]
 simp
section
variable {P:Program} {ops:Array Oper} {rest:List Oper} {o:Oper} {a:Act} {Q:Exit→Act→World→Prop} {w:World} {base:Nat} {e:TypeId} {v:Value}
end
end Go.Proofs.YtncnfncglacheaaGreatDoor
namespace Go.Proofs.YtncnfncglacheaaGreatDoor
open Go Go.RowKit Mem
set_option maxRecDepth 100000
def nums (n:Nat):List Int:=(List.range n).map Int.ofNat
def slOf (g n c:Nat):OC:=⟨.slice (some ⟨g,0,none⟩) n c,rfl⟩
section
variable {P:Program} {ops:Array Oper} {rest:List Oper} {o:Oper} {a:Act} {Q:Exit→Act→World→Prop} {w:World} {base:Nat} {e:TypeId} {v:Value}
end
theorem ownsRow_set {w:World} {base:Nat} {e:TypeId} {size:Nat} {g n c:Nat} {xs:List Value} (h:w.ownsRow base e size (.slice (some ⟨g,0,none⟩) n c) n xs) (i:Nat) (v:Value):(w.setCell ⟨g,i,none⟩ v).ownsRow base e size (.slice (some ⟨g,0,none⟩) n c) n (xs.set i v):=by
 refine ⟨by rw [List.length_set];exact h.1,?_⟩
 rcases h.2 with ⟨h0,_⟩ | ⟨g',cap,cur,he,hb,hg,hc,hm,hs,ht⟩
 ·cases h0
 ·cases he
  refine .inr ⟨g,c,cur.setIfInBounds i v,rfl,hb,?_,hc,hm,by rw [Array.size_setIfInBounds];exact hs,?_⟩
  ·simp only [World.setCell]
   rw [Array.getElem?_modify,if_pos rfl,hg]
   rfl
  ·rw [Array.toList_setIfInBounds,List.take_set,ht]
theorem own_ne_row {α:Type} {f:α→Value} {w:World} {base:Nat} {e:TypeId} {size:Nat} {v:Value} {n:Nat} {xs:List Value} (h:w.ownsRow base e size v n xs) {b:Nat} {t:TypeId} {l:List α} (hr:Row f w b t l) (hne:e≠t):∀g,v.ownBlock=some g→g≠b:=by
 rintro g hg rfl
 rcases h.2 with ⟨h0,_⟩ | ⟨g',cap,cur,he,_,hc,_⟩
 ·rw [h0] at hg;cases hg
 ·rw [he] at hg
  cases hg
  unfold Row at hr
  rw [hr] at hc
  cases hc
  exact hne rfl
theorem own_ne_own {w:World} {base base2:Nat} {e e2:TypeId} {size size2:Nat} {v v2:Value} {n n2:Nat} {xs xs2:List Value} (h:w.ownsRow base e size v n xs) (h2:w.ownsRow base2 e2 size2 v2 n2 xs2) (hne:e≠e2):∀g,v.ownBlock=some g→∀g2,v2.ownBlock=some g2→g≠g2:=by
 rintro g hg g2 hg2 rfl
 rcases h.2 with ⟨h0,_⟩ | ⟨g',cap,cur,he,_,hc,_⟩
 ·rw [h0] at hg;cases hg
 ·rcases h2.2 with ⟨h0,_⟩ | ⟨g'',cap',cur',he',_,hc',_⟩
  ·rw [h0] at hg2;cases hg2
  ·rw [he] at hg
   rw [he'] at hg2
   cases hg
   cases hg2
   rw [hc] at hc'
   cases hc'
   exact hne rfl
end Go.Proofs.YtncnfncglacheaaGreatDoor
namespace Go.Proofs.YtncnfncglacheaaGreatDoor
open Go Go.RowKit Mem
set_option maxRecDepth 100000
theorem stCells_cons (s:St) (L:List St):stCells (s::L)=s.cs.map oV++stCells L:=by simp [stCells]
theorem stCells_setG:∀(L:List St) (j:Nat) (s s':St) (k:Nat) (u:OC),L[j]?=some s→k<33→s'.cs=s.cs.set k u→(stCells L).set (j * 33+k) u.1=stCells (L.set j s')
 | [],j,s,s',k,u,hj,_,_=>by simp at hj
 | a::l,0,s,s',k,u,hj,hk,hs=>by
  have he:a=s:=by simpa using hj
  subst he
  show (stCells (a::l)).set (0 * 33+k) u.1=stCells (s'::l)
  rw [stCells_cons,stCells_cons,Nat.zero_mul,Nat.zero_add,List.set_append_left _ _ (by rw [List.length_map,St.cs_length];exact hk),hs,List.map_set]
  rfl
 | a::l,j+1,s,s',k,u,hj,hk,hs=>by
  have ih:=stCells_setG l j s s' k u (by simpa using hj) hk hs
  show (stCells (a::l)).set ((j+1) * 33+k) u.1=stCells (a::l.set j s')
  rw [stCells_cons,stCells_cons,List.set_append_right _ _ (by rw [List.length_map,St.cs_length];omega),List.length_map,St.cs_length,show (j+1) * 33+k - 33=j * 33+k by omega,ih]
structure PV (w1:World) (B0:Nat) (w:World) (pb:Nat) (T:TypeId) (vs vb:OC) (ext:List OC) (L:List St) (R:List OC) (BL:List (List Int)):Prop where
 row:Row oV w pb T (vs::vb::ext)
 own:w.ownsRow B0 98 33 vs.1 L.length (stCells L)
 blk:Mem.Own oV w B0 92 vb.1 R
 ro:F2 (fun (r:OC) (l:List Int)=>Mem.Own iV w B0 3 r.1 l) R BL
 ds:∀i j,i<R.length→j<R.length→i≠j→∀g,(R.getD i on).1.ownBlock=some g→(R.getD j on).1.ownBlock≠some g
 low:Below w1.heap.size w1 w
 b0:w1.heap.size≤B0
 pbl:w1.heap.size≤pb
 bw:B0≤w.heap.size
def PvT (T:TypeId):Prop:=T≠98∧T≠92∧T≠3
theorem f2_map {α β:Type} {R S:α→β→Prop}:∀{l:List α} {m:List β},F2 R l m→(∀(i:Nat) (a:α) (b:β),l[i]?=some a→m[i]?=some b→R a b→S a b)→F2 S l m
 | _,_, .nil,_=> .nil
 | _,_, .cons h t,hi=> .cons (hi 0 _ _ rfl rfl h) (f2_map t fun i a b ha hb=>hi (i+1) a b ha hb)
theorem f2_nth {α β:Type} {R:α→β→Prop}:∀{l:List α} {m:List β},F2 R l m→∀(i:Nat) (a:α),l[i]?=some a→∃b,m[i]?=some b∧R a b
 | _,_, .cons h _,0,a,ha=>by cases ha;exact ⟨_,rfl,h⟩
 | _,_, .cons _ t,i+1,a,ha=>f2_nth t i a (by simpa using ha)
theorem f2_nth' {α β:Type} {R:α→β→Prop}:∀{l:List α} {m:List β},F2 R l m→∀(i:Nat) (b:β),m[i]?=some b→∃a,l[i]?=some a∧R a b
 | _,_, .cons h _,0,b,hb=>by cases hb;exact ⟨_,rfl,h⟩
 | _,_, .cons _ t,i+1,b,hb=>f2_nth' t i b (by simpa using hb)
theorem f2_setx {α β:Type} {R:α→β→Prop} {S:α→β→Prop} {a:α} {b:β}:∀{l:List α} {m:List β} (k:Nat),S a b→F2 R l m→(∀(i:Nat) (q:α) (y:β),i≠k→l[i]?=some q→m[i]?=some y→R q y→S q y)→F2 S (l.set k a) (m.set k b)
 | _,_,_,_, .nil,_=> .nil
 | _,_,0,hs, .cons _ t,hi=> .cons hs (f2_map t fun i q y h1 h2 h3=>hi (i+1) q y (by omega) h1 h2 h3)
 | _,_,k+1,hs, .cons h t,hi=> .cons (hi 0 _ _ (by omega) rfl rfl h) (f2_setx k hs t fun i q y h1 h2 h3 h4=>hi (i+1) q y (by omega) h2 h3 h4)
section
variable {w1 w w2:World} {B0 pb g c:Nat} {T:TypeId} {vs vb:OC} {ext:List OC} {L:List St} {R:List OC} {BL:List (List Int)}
theorem PV.own' (h:PV w1 B0 w pb T vs vb ext L R BL):w.ownsRow B0 92 1 vb.1 R.length (R.map oV):=h.blk
theorem PV.keep (h:PV w1 B0 w pb T vs vb ext L R BL) (hb:Below w.heap.size w w2):PV w1 B0 w2 pb T vs vb ext L R BL:=
 ⟨h.row.below hb h.row.lt,ownsRow_keep h.own fun g _ hl=>hb.block g hl,h.blk.below' hb,forall2_imp (fun _ _ d=>d.below' hb) h.ro,h.ds,h.low.trans (hb.mono h.low.size),h.b0,h.pbl,Nat.le_trans h.bw hb.size⟩
theorem PV.nS (h:PV w1 B0 w pb T vs vb ext L R BL) (hT:PvT T):∀g,vs.1.ownBlock=some g→g≠pb:=own_ne_row h.own h.row (Ne.symm hT.1)
theorem PV.setS {n:Nat} (h:PV w1 B0 w pb T ⟨.slice (some ⟨g,0,none⟩) n c,rfl⟩ vb ext L R BL) (hT:PvT T) (j:Nat) (s s':St) (k:Nat) (u:OC) (hj:L[j]?=some s) (hk:k<33) (hs:s'.cs=s.cs.set k u):PV w1 B0 (w.setCell ⟨g,j * 33+k,none⟩ u.1) pb T ⟨.slice (some ⟨g,0,none⟩) n c,rfl⟩ vb ext (L.set j s') R BL:=by
 have hlt:=World.ownsRow.lt h.own g rfl
 have hn:n=L.length:=by
  rcases h.own.2 with ⟨h0,_⟩ | ⟨_,_,_,h0,_⟩
  ·cases h0
  ·cases h0;rfl
 subst hn
 have hk2:∀b,b≠g→(w.setCell ⟨g,j * 33+k,none⟩ u.1).heap[b]?=w.heap[b]?:=fun b hb=>Below.heap_setCell _ _ _ _ hb
 refine ⟨h.row.set_other (Ne.symm (h.nS hT g rfl)) _ _,?_,?_,?_,h.ds,below_set h.low _ (Nat.le_trans h.b0 hlt.1) _,h.b0,h.pbl,by simpa using h.bw⟩
 ·rw [List.length_set,← stCells_setG L j s s' k u hj hk hs]
  exact ownsRow_set h.own _ _
 ·exact ownsRow_keep h.blk fun b hb _=>hk2 b (fun e=>own_ne_own h.own' h.own (by decide) b hb g rfl e)
 ·exact forall2_imp (fun r l d=>ownsRow_keep d fun b hb _=>hk2 b (fun e=>own_ne_own (ownsRow_keep d fun _ _ _=>rfl) h.own (by decide) b hb g rfl e)) h.ro
end
end Go.Proofs.YtncnfncglacheaaGreatDoor
namespace Go.Proofs.YtncnfncglacheaaGreatDoor
open Go Go.RowKit Mem
set_option maxRecDepth 100000
theorem belowAl {w w':World} (h:Below w.heap.size w w') (o:Obj):Below w.heap.size w (w'.alloc o):=h.alloc h.size o
structure LnR (n g:Nat) (w w':World) (vs vi:OC) (G L:List St) (k:Nat):Prop where
 gr:w.grownBy w' (some g)
 hn:w.heap.size=n
 gl:g<n
 src:Sts w' g G
 le:n+4≤w'.heap.size
 res:Row oV w' n 27 [on,on]
 blk:Row oV w' (n+2) 92 [vi]
 prg:Row oV w' (n+3) 27 [vs,slOf (n+2) 1 1]
 own:w'.ownsRow (n+1) 98 33 vs.1 L.length (stCells L)
 ints:Mem.Own iV w' (n+1) 3 vi.1 (nums k)
 hS:∀g,vs.1.ownBlock=some g→g≠n+2∧g≠n+3∧vi.1.ownBlock≠some g
 hI:∀g,vi.1.ownBlock=some g→g≠n+2∧g≠n+3
section
variable {n g0:Nat} {w w1 w2:World} {vs vi:OC} {G L:List St} {k:Nat}
theorem LnR.keep (h:LnR n g0 w w1 vs vi G L k) (hb:Below w1.heap.size w1 w2):LnR n g0 w w2 vs vi G L k:=
 ⟨h.gr.andThen (grown_of_below hb (some g0)) (fun _ e=> .inr e),h.hn,h.gl,h.src.below hb h.src.lt,Nat.le_trans h.le hb.size,h.res.below hb h.res.lt,h.blk.below hb h.blk.lt,h.prg.below hb h.prg.lt,ownsRow_keep h.own fun g _ hl=>hb.block g hl,h.ints.below' hb,h.hS,h.hI⟩
end
end Go.Proofs.YtncnfncglacheaaGreatDoor
namespace Go.Proofs.YtncnfncglacheaaGreatDoor
open Go Go.RowKit Mem
set_option maxRecDepth 100000
section
variable {w1 W0 W1 W2:World} {g0 pb n:Nat} {vs vi:OC} {L:List St}
end
section
variable {w1 w w2:World} {B0 pb:Nat} {T T2:TypeId} {vs vb:OC} {ext l2:List OC} {L:List St} {R:List OC} {BL:List (List Int)}
theorem PV.grown (h:PV w1 B0 w pb T vs vb ext L R BL) {rb:Nat} (hr:Row oV w rb T2 l2) (hT2:PvT T2) (hne:rb≠pb) (hG:w.grownBy w2 (some rb)) (hlo:w1.heap.size≤rb):PV w1 B0 w2 pb T vs vb ext L R BL:=by
 refine ⟨h.row.grown hG (fun e=>by injection e with e;exact hne e.symm),ownsRow_keep h.own fun b hb hl=>hG.block b hl fun e=>by injection e with e;exact own_ne_row h.own hr (Ne.symm hT2.1) b hb e,
  ownsRow_keep h.blk fun b hb hl=>hG.block b hl fun e=>by injection e with e;exact own_ne_row h.own' hr (Ne.symm hT2.2.1) b hb e,
  forall2_imp (fun q m d=>ownsRow_keep d fun b hb hl=>hG.block b hl fun e=>by injection e with e;exact own_ne_row (ownsRow_keep d fun _ _ _=>rfl) hr (Ne.symm hT2.2.2) b hb e) h.ro,h.ds,h.low.grown hG h.low.size (fun k e=>by cases e;exact hlo),h.b0,h.pbl,Nat.le_trans h.bw hG.size⟩
theorem ownsRow_sl {w:World} {base:Nat} {e:TypeId} {size:Nat} {v:Value} {n:Nat} {xs:List Value} (h:w.ownsRow base e size v n xs) (hn:n≠0):∃g c,v= .slice (some ⟨g,0,none⟩) n c∧n≤c∧base≤g:=by
 rcases h.2 with ⟨_,h0⟩ | ⟨g,cap,cur,h0,hb,_,hc,_⟩
 ·exact absurd h0 hn
 ·exact ⟨g,cap,h0,hc,hb⟩
end
end Go.Proofs.YtncnfncglacheaaGreatDoor
