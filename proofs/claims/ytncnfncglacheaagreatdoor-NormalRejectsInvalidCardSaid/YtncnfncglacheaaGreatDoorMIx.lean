/- Slices of slices. -/
import Derived.Test.YtncnfncglacheaaGreatDoorMCells
import Derived.Test.YtncnfncglacheaaGreatDoorMUpd
import Derived.Test.YtncnfncglacheaaGreatDoorMHeld
namespace Go.Proofs.YtncnfncglacheaaGreatDoor
open Go Go.RowKit Mem
set_option maxRecDepth 100000
structure XK where
 xb:Nat
 mb:Nat
 nb:Nat
 ss:Sl
 bs:Sl
 av:OC
structure XV where
 fs:OC
 ts:OC
 us:List OC
 fus:List (ByteArray×OC)
def XK.cs (K:XK) (V:XV):List OC:=[K.ss.oc,K.bs.oc,⟨.slice (some ⟨K.mb,0,none⟩) 12 12,rfl⟩,⟨.slice (some ⟨K.nb,0,none⟩) 4 4,rfl⟩,V.fs,V.ts,K.av]
def Wr (K:XK) (V:XV) (g:Nat):Prop:=g=K.xb∨g=K.mb∨g=K.nb∨V.fs.1.ownBlock=some g∨V.ts.1.ownBlock=some g
def Nrm (v:Value):Prop:=∀ad n c,v= .slice (some ad) n c→∃b o,ad=⟨b,o,none⟩
def Dat (w:World) (K:XK) (V:XV) (u:OC) (l:List UInt8):Prop:=Rd u8V w u.1 l∧l.length≤4096∧(l≠[]→∀g,u.1.ownBlock=some g→¬Wr K V g)∧Nrm u.1
def fCells (fus:List (ByteArray×OC)):List Value:=fus.flatMap fun p=>[.string p.1,p.2.1]
inductive F2 {α β:Type} (R:α→β→Prop):List α→List β→Prop
 | nil:F2 R [] []
 | cons {a:α} {b:β} {l:List α} {m:List β}:R a b→F2 R l m→F2 R (a::l) (b::m)
structure XW (B0:Nat) (w:World) (K:XK) (V:XV) (x:Ex):Prop where
 row:Row oV w K.xb 136 (K.cs V)
 str:Row oV w K.mb 22 V.us
 num:Row iV w K.nb 3 x.n
 nus:V.us.length=12
 nn:x.n.length=4
 sep:K.xb≠K.mb∧K.xb≠K.nb∧K.mb≠K.nb
 lo:B0≤K.xb∧B0≤K.mb∧B0≤K.nb
 tr:Mem.Own iV w B0 3 V.ts.1 x.tr
 ht:∀g,V.ts.1.ownBlock=some g→g≠K.xb∧g≠K.mb∧g≠K.nb
 fl:w.ownsRow B0 139 2 V.fs.1 V.fus.length (fCells V.fus)
 hf:∀g,V.fs.1.ownBlock=some g→g≠K.xb∧g≠K.mb∧g≠K.nb∧V.ts.1.ownBlock≠some g
 rd:F2 (Dat w K V) V.us x.s
 fr:F2 (fun (a:ByteArray×OC) (b:ByteArray×List UInt8)=>a.1=b.1∧Dat w K V a.2 b.2) V.fus x.f
 fb:x.f.length≤16
theorem Mem.Rd.ownLt {α:Type} {f:α→Value} {w:World} {v:Value} {l:List α} (h:Rd f w v l) (hl:l≠[]):∀g,v.ownBlock=some g→g<w.heap.size:=by
 intro g hg
 rcases h with ⟨p,rfl,h0⟩ | ⟨b,o,cap,rfl,_,_,hlt⟩
 ·exact absurd h0 hl
 ·cases hg;exact hlt
theorem Mem.Rd.keep {α:Type} {f:α→Value} {w w':World} {v:Value} {l:List α} (h:Rd f w v l) (hs:w.heap.size≤w'.heap.size) (hk:∀g,v.ownBlock=some g→g<w.heap.size→w'.heap[g]?=w.heap[g]?):Rd f w' v l:=by
 rcases h with hn | ⟨b,o,cap,rfl,hc,ha,hlt⟩
 ·exact .inl hn
 ·exact .inr ⟨b,o,cap,rfl,hc,fun i hi=>(World.cell?_of_block (a:=⟨b,o+i,none⟩) (hk b rfl hlt)).trans (ha i hi),Nat.lt_of_lt_of_le hlt hs⟩
theorem ownsRow_keep {w w':World} {base:Nat} {e:TypeId} {size:Nat} {v:Value} {n:Nat} {xs:List Value} (h:w.ownsRow base e size v n xs) (hk:∀g,v.ownBlock=some g→g<w.heap.size→w'.heap[g]?=w.heap[g]?):w'.ownsRow base e size v n xs:=by
 refine ⟨h.1,?_⟩
 rcases h.2 with hn | ⟨g,cap,cur,rfl,hbg,hg,rest⟩
 ·exact .inl hn
 ·exact .inr ⟨g,cap,cur,rfl,hbg,(hk g rfl (Array.getElem?_eq_some_iff.1 hg).1).trans hg,rest⟩
theorem Mem.Rd.keepNil {α:Type} {f:α→Value} {w w':World} {v:Value} (h:Rd f w v ([]:List α)) (hs:w.heap.size≤w'.heap.size):Rd f w' v []:=by
 rcases h with hn | ⟨b,o,cap,rfl,hc,ha,hlt⟩
 ·exact .inl hn
 ·exact .inr ⟨b,o,cap,rfl,hc,fun i hi=>absurd hi (Nat.not_lt_zero _),Nat.lt_of_lt_of_le hlt hs⟩
theorem Dat.keep {w w':World} {K:XK} {V V':XV} {u:OC} {l:List UInt8} (h:Dat w K V u l) (hs:w.heap.size≤w'.heap.size) (hk:∀g,g<w.heap.size→¬Wr K V g→w'.heap[g]?=w.heap[g]?)
  (hv:∀g,g<w.heap.size→Wr K V' g→Wr K V g):Dat w' K V' u l:=by
 by_cases hl:l=[]
 ·subst hl;exact ⟨h.1.keepNil hs,h.2.1,fun hn=>absurd rfl hn,h.2.2.2⟩
 ·exact ⟨h.1.keep hs fun g hg hlt=>hk g hlt (h.2.2.1 hl g hg),h.2.1,fun _ g hg hw=>h.2.2.1 hl g hg (hv g (h.1.ownLt hl g hg) hw),h.2.2.2⟩
theorem forall2_imp {α β:Type} {R S:α→β→Prop} (hi:∀a b,R a b→S a b):∀{l:List α} {m:List β},F2 R l m→F2 S l m
 | _,_, .nil=> .nil
 | _,_, .cons h t=> .cons (hi _ _ h) (forall2_imp hi t)
theorem forall2_set {α β:Type} {R:α→β→Prop} {a:α} {b:β} (h:R a b):∀{l:List α} {m:List β} (i:Nat),F2 R l m→F2 R (l.set i a) (m.set i b)
 | _,_,_, .nil=> .nil
 | _,_,0, .cons _ t=> .cons h t
 | _,_,i+1, .cons g t=> .cons g (forall2_set h i t)
theorem forall2_length {α β:Type} {R:α→β→Prop}:∀{l:List α} {m:List β},F2 R l m→l.length=m.length
 | _,_, .nil=>rfl
 | _,_, .cons _ t=>by simp [forall2_length t]
section
variable {B0:Nat} {w w':World} {K:XK} {V:XV} {x:Ex}
theorem XW.keep (h:XW B0 w K V x) (hb:Below w.heap.size w w'):XW B0 w' K V x:=by
 have hk:∀g,g<w.heap.size→¬Wr K V g→w'.heap[g]?=w.heap[g]?:=fun g hg _=>hb.block g hg
 exact {row:=h.row.below hb h.row.lt,str:=h.str.below hb h.str.lt,num:=h.num.below hb h.num.lt,nus:=h.nus,nn:=h.nn,sep:=h.sep,lo:=h.lo,
        tr:=h.tr.below' hb,ht:=h.ht,fl:=ownsRow_keep h.fl fun g _ hlt=>hb.block g hlt,hf:=h.hf,
        rd:=forall2_imp (fun _ _ d=>d.keep hb.size hk fun _ _ e=>e) h.rd,fr:=forall2_imp (fun _ _ d=>⟨d.1,d.2.keep hb.size hk fun _ _ e=>e⟩) h.fr,fb:=h.fb}
theorem XW.ns (h:XW B0 w K V x):x.s.length=12:=by rw [← forall2_length h.rd];exact h.nus
theorem Dat.set {b:Nat} (hb:b=K.xb∨b=K.mb∨b=K.nb) (i:Nat) (v:Value) {V':XV} {u:OC} {l:List UInt8} (hv:∀g,g<w.heap.size→Wr K V' g→Wr K V g) (h:Dat w K V u l):Dat (w.setCell ⟨b,i,none⟩ v) K V' u l:=
 h.keep (by simp) (fun g _ hn=>Below.heap_setCell _ _ _ _ (by rintro rfl;exact hn (by rcases hb with h | h | h;exact .inl h;exact .inr (.inl h);exact .inr (.inr (.inl h))))) hv
theorem XW.setS (h:XW B0 w K V x) (i:Nat) (u:OC) (l:List UInt8) (hd:Dat w K V u l):XW B0 (w.setCell ⟨K.mb,i,none⟩ u.1) K {V with us:=V.us.set i u} {x with s:=x.s.set i l}:=by
 have hsz:∀g,g<w.heap.size→Wr K {V with us:=V.us.set i u} g→Wr K V g:=fun _ _ e=>e
 have hne:∀g,g≠K.mb→(w.setCell ⟨K.mb,i,none⟩ u.1).heap[g]?=w.heap[g]?:=fun g hg=>Below.heap_setCell _ _ _ _ hg
 exact {row:=h.row.set_other h.sep.1 _ _,str:=h.str.set i u,num:=h.num.set_other (Ne.symm h.sep.2.2) _ _,nus:=by simpa using h.nus,nn:=h.nn,sep:=h.sep,lo:=h.lo,
        tr:=ownsRow_keep h.tr fun g hg _=>hne g (h.ht g hg).2.1,ht:=h.ht,fl:=ownsRow_keep h.fl fun g hg _=>hne g (h.hf g hg).2.1,hf:=h.hf,
        rd:=forall2_set (hd.set (.inr (.inl rfl)) i u.1 hsz) i (forall2_imp (fun _ _ d=>d.set (.inr (.inl rfl)) i u.1 hsz) h.rd),
        fr:=forall2_imp (fun _ _ d=>⟨d.1,d.2.set (.inr (.inl rfl)) i u.1 hsz⟩) h.fr,fb:=h.fb}
end
end Go.Proofs.YtncnfncglacheaaGreatDoor
namespace Go.Proofs.YtncnfncglacheaaGreatDoor
open Go Go.RowKit Mem
set_option maxRecDepth 100000
section
variable {P:Program} {ops:Array Oper} {rest:List Oper} {o:Oper} {a:Act} {Q:Exit→Act→World→Prop} {w:World}
end
theorem sliced_own (p:Option Addr) (lo hi c n:Nat) (g:Nat) (h:(sliced p lo hi c 1).ownBlock=some g):(Value.slice p n c).ownBlock=some g:=by
 unfold sliced at h
 cases p with
 | none=>split at h<;>simp [Value.ownBlock] at h
 | some ad=>
  split at h
  ·exact h
  ·simpa [Value.ownBlock,Addr.add] using (by
    unfold Value.ownBlock at h
    simp only [Option.map_some] at h
    unfold Addr.add at h
    split at h<;>simpa using h)
theorem Mem.Rd.slc {α:Type} {f:α→Value} {w:World} {p:Option Addr} {n c:Nat} {l:List α} (h:Rd f w (.slice p n c) l) (lo hi:Nat) (h1:lo≤hi) (h2:hi≤n):Rd f w (sliced p lo hi c 1) ((l.drop lo).take (hi - lo)):=by
 rcases h with ⟨q,he,rfl⟩ | ⟨b,o,cap,he,hc,ha,hlt⟩
 ·injection he with e1 e2 e3
  subst e1 e2 e3
  obtain rfl:hi=0:=by omega
  obtain rfl:lo=0:=by omega
  exact .inl ⟨p,by simp [sliced],by simp⟩
 ·injection he with e1 e2 e3
  subst e1 e2 e3
  have hlen:((l.drop lo).take (hi - lo)).length=hi - lo:=by simp;omega
  by_cases hcl:c=lo
  ·obtain rfl:hi=lo:=by omega
   exact .inl ⟨some ⟨b,o,none⟩,by simp [sliced,hcl],by simp⟩
  ·refine .inr ⟨b,o+lo,c - lo,?_,by omega,fun i hi2=> ?_,hlt⟩
   ·rw [hlen]
    have h2:((⟨b,o,none⟩:Addr).add (lo * 1))=⟨b,o+lo,none⟩:=by unfold Addr.add;split<;>simp_all
    unfold sliced
    rw [if_neg hcl,Option.map_some,h2]
   ·rw [hlen] at hi2
    rw [Nat.add_assoc,ha (lo+i) (by omega),List.getElem?_take,if_pos hi2,List.getElem?_drop]
theorem Dat.slc {w:World} {K:XK} {V:XV} {u:OC} {l:List UInt8} (h:Dat w K V u l) {p:Option Addr} {n c:Nat} (hu:u.1= .slice p n c) (lo hi:Nat) (h1:lo≤hi) (h2:hi≤n):Dat w K V ⟨sliced p lo hi c 1,rfl⟩ ((l.drop lo).take (hi - lo)):=by
 have hr:=h.1
 rw [hu] at hr
 refine ⟨hr.slc lo hi h1 h2,by have:=h.2.1;simp;omega,fun hne g hg=>h.2.2.1 (fun e=>hne (by rw [e];simp)) g ?_,?_⟩
 ·rw [hu]
  exact sliced_own p lo hi c n g hg
 ·intro ad n2 c2 he
  cases p with
  | none=>unfold sliced at he;split at he<;>simp at he
  | some ad0=>
   obtain ⟨b,o,rfl⟩:=h.2.2.2 ad0 n c hu
   unfold sliced at he
   split at he
   ·injection he with e1 e2 e3;injection e1 with e1;exact ⟨b,o,e1.symm⟩
   ·injection he with e1 e2 e3
    rw [Option.map_some] at e1
    injection e1 with e1
    have h2:((⟨b,o,none⟩:Addr).add (lo * 1))=⟨b,o+lo,none⟩:=by unfold Addr.add;split<;>simp_all
    exact ⟨b,o+lo,e1.symm.trans h2⟩
end Go.Proofs.YtncnfncglacheaaGreatDoor
