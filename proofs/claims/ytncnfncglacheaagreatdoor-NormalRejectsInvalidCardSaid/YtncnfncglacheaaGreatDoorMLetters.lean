/- language.letters. -/
import Derived.Test.YtncnfncglacheaaGreatDoorMHeldD
import Derived.Test.YtncnfncglacheaaGreatDoorMClSort
import Derived.Test.YtncnfncglacheaaGreatDoorMCanP
import Derived.Test.YtncnfncglacheaaGreatDoorMClass
import Derived.Test.YtncnfncglacheaaGreatDoorMTbM
import Derived.Test.YtncnfncglacheaaGreatDoorMShelf
namespace Go.Proofs.YtncnfncglacheaaGreatDoor
open Go Go.RowKit Mem
set_option maxRecDepth 100000
set_option maxHeartbeats 16000000
def lettersD (c:Cl):DF:=⟨[c.non,c],[[2,1],[2,2],[2,2]],[false,true,false]⟩
structure Cl.Let (c:Cl):Prop where
 size:c.size≠0
 h0:c≠⟨0,0,0,0⟩
 h1:c.non≠⟨0,0,0,0⟩
 lt:c.non.least<c.least
 v:(lettersD c).V
 no:∃n:UInt8,c.non.least=(n.toNat:Int)∧c.has n=false
 yes:∃n:UInt8,c.least=(n.toNat:Int)∧c.has n=true
def LtS (w W:World) (c:Cl):Prop:=Below w.heap.size w W∧Row oV W w.heap.size 65 (clL c)∧Row oV W (w.heap.size+1) 79 [on,on,on]∧w.heap.size+2≤W.heap.size
theorem LtS.up {w W X:World} {c:Cl} (h:LtS w W c) {k:Nat} (hk:w.heap.size+2≤k) (hB:Below k W X):LtS w X c:=
 ⟨h.1.trans (hB.mono (by omega)),h.2.1.below hB (by omega),h.2.2.1.below hB (by omega),Nat.le_trans h.2.2.2 hB.size⟩
structure LtI (w:World) (c:Cl) (N gc cap gs gd:Nat) (st dd:List Nat) (X:World):Prop where
 s:LtS w X c
 o:OwnK 4 clL X (w.heap.size+2) 65 (.slice (some ⟨gc,0,none⟩) 2 cap) [c.non,c]
 a:Row Value.bool X N 4 [false,true,false]
 d:Row oV X (N+1) 79 (slO3 (some ⟨gc,0,none⟩) 2 cap none 0 0 (some ⟨N,0,none⟩) 3 3)
 st:Row nV X gs 3 st
 dd:Row nV X gd 3 dd
theorem LtI.below {w X X':World} {c:Cl} {N gc cap gs gd:Nat} {st dd:List Nat} (h:LtI w c N gc cap gs gd st dd X) (hB:Below X.heap.size X X'):LtI w c N gc cap gs gd st dd X':=
 ⟨h.s.up h.s.2.2.2 hB,h.o.below' hB,h.a.below hB h.a.lt,h.d.below hB h.d.lt,h.st.below hB h.st.lt,h.dd.below hB h.dd.lt⟩
theorem LtI.setS {w X:World} {c:Cl} {N gc cap gs gd:Nat} {st dd:List Nat} (h:LtI w c N gc cap gs gd st dd X) (hN:w.heap.size+2≤N) (hs:N+2≤gs) (hne:gd≠gs) (hc:∀k,(Value.slice (some ⟨gc,0,none⟩) 2 cap).ownBlock=some k→k<N) (k v:Nat):LtI w c N gc cap gs gd (st.set k v) dd (X.setCell ⟨gs,k,none⟩ (.int .i64 (v:Int))):=by
 have hg:=grown_cell X gs k (.int .i64 (v:Int))
 refine ⟨⟨h.s.1.grown hg h.s.1.size (fun j e=>by injection e with e;omega),h.s.2.1.grown hg (fun e=>by injection e with e;omega),h.s.2.2.1.grown hg (fun e=>by injection e with e;omega),Nat.le_trans h.s.2.2.2 hg.size⟩,h.o.grown hg (fun g e e2=>by injection e2 with e2;have:=hc g e;omega),h.a.grown hg (fun e=>by injection e with e;omega),h.d.grown hg (fun e=>by injection e with e;omega),h.st.set k v,h.dd.grown hg (fun e=>by injection e with e;omega)⟩
theorem LtI.setD {w X:World} {c:Cl} {N gc cap gs gd:Nat} {st dd:List Nat} (h:LtI w c N gc cap gs gd st dd X) (hN:w.heap.size+2≤N) (hs:N+2≤gd) (hne:gd≠gs) (hc:∀k,(Value.slice (some ⟨gc,0,none⟩) 2 cap).ownBlock=some k→k<N) (k v:Nat):LtI w c N gc cap gs gd st (dd.set k v) (X.setCell ⟨gd,k,none⟩ (.int .i64 (v:Int))):=by
 have hg:=grown_cell X gd k (.int .i64 (v:Int))
 refine ⟨⟨h.s.1.grown hg h.s.1.size (fun j e=>by injection e with e;omega),h.s.2.1.grown hg (fun e=>by injection e with e;omega),h.s.2.2.1.grown hg (fun e=>by injection e with e;omega),Nat.le_trans h.s.2.2.2 hg.size⟩,h.o.grown hg (fun g e e2=>by injection e2 with e2;have:=hc g e;omega),h.a.grown hg (fun e=>by injection e with e;omega),h.d.grown hg (fun e=>by injection e with e;omega),h.st.grown hg (fun e=>by injection e with e;omega),h.dd.set k v⟩
def PhL (N:Nat) (vs:Value) (i:Nat) (v:Value) (X:World):Prop:=
 match i with
 | 0 | 3=>v=vs
 | 1 | 4=>v= .int .i64 2
 | _=>∃g,v= .slice (some ⟨g,0,none⟩) 2 2∧N≤g∧Row nV X g 3 [0,0]
def PsL (i j:Nat) (v u:Value):Prop:=(i=5∧(j=2∨j=6))∨(j=5∧(i=2∨i=6))→v.ownBlock≠u.ownBlock
theorem PhL.below {N:Nat} {vs v:Value} {X X':World}:∀{i:Nat},PhL N vs i v X→Below X.heap.size X X'→PhL N vs i v X'
 | 0,h,_=>h
 | 1,h,_=>h
 | 3,h,_=>h
 | 4,h,_=>h
 | 2,⟨g,h1,h2,h3⟩,hb=>⟨g,h1,h2,h3.below hb h3.lt⟩
 | _+5,⟨g,h1,h2,h3⟩,hb=>⟨g,h1,h2,h3.below hb h3.lt⟩
theorem psL_triv {i j:Nat} {v u:Value} (h:i=0∨i=1∨i=3∨i=4):PsL i j v u∧PsL j i u v:=⟨fun e=>by omega,fun e=>by omega⟩
theorem tLetters (w:World) (c:Cl) (hc:c.Let) (hT:Tab w) (htl:1<w.heap.size):
  Calls Tryz.prog 136 #[.agg (clA c)] w fun e w'=>∃v,e= .returned v∧DfRes w' v (.ok (tabOf (lettersD c)).canon)∧Below w.heap.size w w':=by
 have HC:=Lib.hid hc
 have HT:=Lib.hid hT
 have Htl:=Lib.hid htl
 have hsz:=hc.size
 clear hc hT htl
 have hS:LtS w ((w.alloc (.cells (clA c) 65)).alloc (.cells #[.slice none 0 0, .slice none 0 0, .slice none 0 0] 79)) c:=by
  have r0:Row oV (w.alloc (.cells (clA c) 65)) w.heap.size 65 (clL c):=Row.new _ _ rfl
  have s0:(w.alloc (.cells (clA c) 65)).heap.size=w.heap.size+1:=World.size_alloc _ _
  refine ⟨((Below.refl _ _).alloc (Nat.le_refl _) _).alloc (by rw [s0];omega) _,r0.alloc _,?_,by rw [World.size_alloc,s0];omega⟩
  have h:=Row.new (f:=oV) (w.alloc (.cells (clA c) 65)) (t:=79) (l:=[on,on,on]) (.cells #[.slice none 0 0, .slice none 0 0, .slice none 0 0] 79) rfl
  rwa [s0] at h
 go_enter Tryz.func136,Tryz.ntmps136
 go_upto_region 1 with (fail)
 generalize ((w.alloc (.cells (clA c) 65)).alloc (.cells #[.slice none 0 0, .slice none 0 0, .slice none 0 0] 79))=W at hS ⊢
 have hr:=hS.2.1.at
 go_wp2_with ((with_reducible refine load_agg (f:=oV) (l:=clL c) (C:=clA c) aggCl (.tmp 1) ?_ ?_ w.heap.size 0 ?_ hr rfl ?_);rfl;rfl;rfl)
 clear hr
 refine (clSize W c).mono ?_
 rintro e W1 ⟨rfl,hB1⟩
 obtain ⟨sz,Hsz⟩:∃n,Hid (c.size=n):=⟨_,Lib.hid rfl⟩
 rw [Hsz.out] at hsz ⊢
 replace hS:=hS.up hS.2.2.2 hB1
 clear hB1
 have hr:=hS.2.1.at
 go_wp2_with ((with_reducible refine load_agg (f:=oV) (l:=clL c) (C:=clA c) aggCl (.tmp 1) ?_ ?_ w.heap.size 0 ?_ hr rfl ?_);rfl;rfl;rfl)
 clear hr
 have hr2:Row oV (W1.alloc (.cells (clA c) 65)) W1.heap.size 65 (clL c):=Row.new _ _ rfl
 have hS2:=hS.up hS.2.2.2 ((Below.refl _ _).alloc (Nat.le_refl _) (.cells (clA c) 65))
 change Calls _ _ _ (W1.alloc (.cells (clA c) 65)) _
 generalize (W1.alloc (.cells (clA c) 65))=W2 at hr2 hS2 ⊢
 have hw2:w.heap.size≤W2.heap.size:=hS2.1.size
 refine (clCells1 W2 W1.heap.size 1 c hr2.at hr2.lt HC.out.h0 HC.out.h1 HC.out.lt (HT.out.below hS2.1 Htl.out) (Nat.lt_of_lt_of_le Htl.out hw2)).mono ?_
 rintro e W3 ⟨p,cap,rfl,hO,hB3⟩
 obtain ⟨gc,ec,hgc3,_⟩:=ownK_elem clL_len4 hO 0 (by simp)
 subst ec
 replace hO:=hO.mono (Nat.le_trans hS2.2.2.2 (Nat.le_refl _))
 have hS3:=hS2.up hS2.2.2.2 hB3
 clear hr2 hS2 hw2 hB3 hS hsz
 go_upto_region 5 with (fail)
 obtain ⟨W5,hW5,hS5,hO5,hA5,hD5,hz5⟩:∃W,((W3.alloc (.cells #[.bool false, .bool true, .bool false] 4)).alloc (.cells #[.slice (some ⟨gc,0,none⟩) 2 cap, .slice none 0 0, .slice (some ⟨W3.heap.size,0,none⟩) 3 3] 79))=W∧LtS w W c∧OwnK 4 clL W (w.heap.size+2) 65 (.slice (some ⟨gc,0,none⟩) 2 cap) [c.non,c]∧Row Value.bool W W3.heap.size 4 [false,true,false]∧Row oV W (W3.heap.size+1) 79 (slO3 (some ⟨gc,0,none⟩) 2 cap none 0 0 (some ⟨W3.heap.size,0,none⟩) 3 3)∧W3.heap.size+2≤W.heap.size:=by
  have s0:(W3.alloc (.cells #[.bool false, .bool true, .bool false] 4)).heap.size=W3.heap.size+1:=World.size_alloc _ _
  have b0:=((Below.refl W3.heap.size W3).alloc (Nat.le_refl _) (.cells #[.bool false, .bool true, .bool false] 4)).alloc (by rw [s0];omega) (.cells #[.slice (some ⟨gc,0,none⟩) 2 cap, .slice none 0 0, .slice (some ⟨W3.heap.size,0,none⟩) 3 3] 79)
  refine ⟨_,rfl,hS3.up hS3.2.2.2 b0,hO.below' b0,(Row.new (f:=Value.bool) W3 (l:=[false,true,false]) _ rfl).alloc _,?_,by rw [World.size_alloc,s0];omega⟩
  have h:=Row.new (f:=oV) (W3.alloc (.cells #[.bool false, .bool true, .bool false] 4)) (t:=79) (l:=(slO3 (some ⟨gc,0,none⟩) 2 cap none 0 0 (some ⟨W3.heap.size,0,none⟩) 3 3)) (.cells #[.slice (some ⟨gc,0,none⟩) 2 cap, .slice none 0 0, .slice (some ⟨W3.heap.size,0,none⟩) 3 3] 79) rfl
  rwa [s0] at h
 rw [hW5]
 have hN5:w.heap.size+2≤W3.heap.size:=hS3.2.2.2
 clear hW5 hO hS3
 obtain ⟨N,HN⟩:∃N,Hid (W3.heap.size=N):=⟨_,Lib.hid rfl⟩
 rw [HN.out] at hA5 hD5 hz5 hN5 ⊢
 have hcN:∀k,(Value.slice (some ⟨gc,0,none⟩) 2 cap).ownBlock=some k→k<N:=fun k e=>by injection e with e;have:=HN.out;have e3:gc=k:=e;omega
 obtain ⟨vs,Hvs⟩:∃v,Hid (Value.slice (some ⟨gc,0,none⟩) 2 cap=v):=⟨_,Lib.hid rfl⟩
 refine region_free3 7 [some 22,some 23,some 24,some 25,some 26,some 27,some 6] (fun _ X=>Below W5.heap.size W5 X) (PhL W5.heap.size (.slice (some ⟨gc,0,none⟩) 2 cap)) PsL rfl (by kernel_rfl) (by kernel_rfl) (Below.refl _ _).drew ?_ ?_
 ·intro i o hi ho a X dn val hK hd hdn hG
  have hst:∀{i:Nat} {v:Value} {X':World},(i=0∨i=1∨i=3∨i=4)→Below X.heap.size X X'→∀j,j<7→j≠i→dn j=true→PhL W5.heap.size (.slice (some ⟨gc,0,none⟩) 2 cap) j (val j) X'∧PsL i j v (val j)∧PsL j i (val j) v:=fun h hb j hj _ hdj=>⟨(hK.got j hj hdj).below hb,psL_triv h⟩
  have hmk:=mkIntN X 2 (by omega)
  have hnew:Row nV (X.alloc (.cells ((List.replicate 2 0).map nV).toArray 3)) X.heap.size 3 [0,0]:=Row.new _ _ rfl
  have hal:Below X.heap.size X (X.alloc (.cells ((List.replicate 2 0).map nV).toArray 3)):=(Below.refl _ _).alloc (Nat.le_refl _) _
  match i,hi,ho with
  | 0,_,ho=>
   obtain rfl:=Option.some.inj ho
   have e0:a.eval (.tmp 4)= .slice (some ⟨gc,0,none⟩) 2 cap:=by show a.tmps.getD 4 undef=_;rw [hK.old 4 (by decide)];rfl
   exact free_value (v:=a.eval (.tmp 4)) (w':=X) (by first | rfl | kernel_rfl) ⟨_,rfl,hG,e0,hst (by decide) (Below.refl _ _)⟩
  | 1,_,ho=>
   obtain rfl:=Option.some.inj ho
   have e0:a.eval (.tmp 22)= .slice (some ⟨gc,0,none⟩) 2 cap:=by
    show a.tmps.getD 22 undef=_
    rw [hK.slot 0 (by decide) (hd 0 (by kernel_rfl)) 22 rfl];exact hK.got 0 (by decide) (hd 0 (by kernel_rfl))
   refine free_value (v:= .int .i64 2) (w':=X) ?_ ⟨_,rfl,hG,rfl,hst (by decide) (Below.refl _ _)⟩
   have e1:a.tmps[22]?.getD undef= .slice (some ⟨gc,0,none⟩) 2 cap:=by rw [← Array.getD_eq_getD_getElem?];exact e0
   unfold execOp
   go_simp
  | 2,_,ho=>
   obtain rfl:=Option.some.inj ho
   have e0:a.eval (.tmp 23)= .int .i64 2:=by
    show a.tmps.getD 23 undef=_
    rw [hK.slot 1 (by decide) (hd 1 (by kernel_rfl)) 23 rfl];exact hK.got 1 (by decide) (hd 1 (by kernel_rfl))
   refine free_value (v:= .slice (some ⟨X.heap.size,0,none⟩) 2 2) (w':=X.alloc (.cells ((List.replicate 2 0).map nV).toArray 3)) ?_ ⟨_,rfl,hG.alloc hG.size _,⟨X.heap.size,rfl,hG.size,hnew⟩,?_⟩
   ·unfold execOp
    simp only [e0,Sem.run_bind]
    erw [hmk]
    rfl
   ·intro j hj _ hdj
    refine ⟨(hK.got j hj hdj).below hal,?_,?_⟩
    all_goals
     intro hor
     have hj5:j=5:=by simpa using hor
     subst hj5
     obtain ⟨g,h1,_,h3⟩:=hK.got 5 hj hdj
     rw [h1]
     intro e
     injection e with e
     have:=h3.lt
     have e2:X.heap.size=g∨g=X.heap.size:=by first | exact .inl e | exact .inr e
     omega
  | 3,_,ho=>
   obtain rfl:=Option.some.inj ho
   have e0:a.eval (.tmp 4)= .slice (some ⟨gc,0,none⟩) 2 cap:=by show a.tmps.getD 4 undef=_;rw [hK.old 4 (by decide)];rfl
   exact free_value (v:=a.eval (.tmp 4)) (w':=X) (by first | rfl | kernel_rfl) ⟨_,rfl,hG,e0,hst (by decide) (Below.refl _ _)⟩
  | 4,_,ho=>
   obtain rfl:=Option.some.inj ho
   have e0:a.eval (.tmp 25)= .slice (some ⟨gc,0,none⟩) 2 cap:=by
    show a.tmps.getD 25 undef=_
    rw [hK.slot 3 (by decide) (hd 3 (by kernel_rfl)) 25 rfl];exact hK.got 3 (by decide) (hd 3 (by kernel_rfl))
   refine free_value (v:= .int .i64 2) (w':=X) ?_ ⟨_,rfl,hG,rfl,hst (by decide) (Below.refl _ _)⟩
   have e1:a.tmps[25]?.getD undef= .slice (some ⟨gc,0,none⟩) 2 cap:=by rw [← Array.getD_eq_getD_getElem?];exact e0
   unfold execOp
   go_simp
  | 5,_,ho=>
   obtain rfl:=Option.some.inj ho
   have e0:a.eval (.tmp 26)= .int .i64 2:=by
    show a.tmps.getD 26 undef=_
    rw [hK.slot 4 (by decide) (hd 4 (by kernel_rfl)) 26 rfl];exact hK.got 4 (by decide) (hd 4 (by kernel_rfl))
   refine free_value (v:= .slice (some ⟨X.heap.size,0,none⟩) 2 2) (w':=X.alloc (.cells ((List.replicate 2 0).map nV).toArray 3)) ?_ ⟨_,rfl,hG.alloc hG.size _,⟨X.heap.size,rfl,hG.size,hnew⟩,?_⟩
   ·unfold execOp
    simp only [e0,Sem.run_bind]
    erw [hmk]
    rfl
   ·intro j hj _ hdj
    refine ⟨(hK.got j hj hdj).below hal,?_,?_⟩
    all_goals
     intro hor
     have hj2:j=2∨j=6:=by simpa using hor
     have:∃g,val j= .slice (some ⟨g,0,none⟩) 2 2∧W5.heap.size≤g∧Row nV X g 3 [0,0]:=by rcases hj2 with rfl | rfl<;>exact hK.got _ hj hdj
     obtain ⟨g,h1,_,h3⟩:=this
     rw [h1]
     intro e
     injection e with e
     have:=h3.lt
     have e2:X.heap.size=g∨g=X.heap.size:=by first | exact .inl e | exact .inr e
     omega
  | 6,_,ho=>
   obtain rfl:=Option.some.inj ho
   have h24:a.eval (.tmp 24)=val 2:=by
    show a.tmps.getD 24 undef=_
    rw [hK.slot 2 (by decide) (hd 2 (by kernel_rfl)) 24 rfl]
   refine free_value (v:=a.eval (.tmp 24)) (w':=X) (by first | rfl | kernel_rfl) ⟨_,rfl,hG,?_,?_⟩
   ·rw [h24];exact hK.got 2 (by decide) (hd 2 (by kernel_rfl))
   ·intro j hj hj6 hdj
    refine ⟨hK.got j hj hdj,fun e=> ?_,fun e=> ?_⟩
    ·have:j=5:=by simpa using e
     subst this
     rw [h24]
     exact hK.two 2 5 (by decide) (by decide) (by decide) (hd 2 (by kernel_rfl)) hdj (.inr ⟨rfl, .inl rfl⟩)
    ·have:j=5:=by simpa using e
     subst this
     rw [h24]
     exact hK.two 5 2 (by decide) (by decide) (by decide) hdj (hd 2 (by kernel_rfl)) (.inl ⟨rfl, .inl rfl⟩)
 intro vs X dn hvl hPh hPs _ hG
 obtain ⟨gd,h5,hgd,hDd⟩:=hPh 5 (by decide)
 obtain ⟨gs,h6,hgs,hSt⟩:=hPh 6 (by decide)
 have hne:gd≠gs:=by
  have h:=hPs 5 6 (by decide) (by decide) (by decide) (.inl ⟨rfl, .inr rfl⟩)
  rw [h5,h6] at h
  exact fun e=>h (by rw [e])
 obtain ⟨g2,h2,_,_⟩:=hPh 2 (by decide)
 have h0:vs.getD 0 undef=_:=hPh 0 (by decide)
 have h1:vs.getD 1 undef=_:=hPh 1 (by decide)
 have h3:vs.getD 3 undef=_:=hPh 3 (by decide)
 have h4:vs.getD 4 undef=_:=hPh 4 (by decide)
 have hvs:vs=[.slice (some ⟨gc,0,none⟩) 2 cap, .int .i64 2, .slice (some ⟨g2,0,none⟩) 2 2, .slice (some ⟨gc,0,none⟩) 2 cap, .int .i64 2, .slice (some ⟨gd,0,none⟩) 2 2, .slice (some ⟨gs,0,none⟩) 2 2]:=by
  match vs,hvl with
  | [a0,a1,a2,a3,a4,a5,a6],_=>
   simp only [List.getD_cons_zero,List.getD_cons_succ] at h0 h1 h2 h3 h4 h5 h6
   rw [h0,h1,h2,h3,h4,h5,h6]
 subst hvs
 clear h0 h1 h2 h3 h4 h5 h6 hPh hPs hvl
 simp only [setOpt,List.setIfInBounds_toArray,List.set_cons_succ,List.set_cons_zero,List.drop]
 have hI:LtI w c N gc cap gs gd [0,0] [0,0] X:=⟨hS5.up (Nat.le_trans hN5 (by omega)) hG,hO5.below' hG,hA5.below hG hA5.lt,hD5.below hG hD5.lt,hSt,hDd⟩
 have hgs2:N+2≤gs:=Nat.le_trans hz5 hgs
 have hgd2:N+2≤gd:=Nat.le_trans hz5 hgd
 clear hS5 hO5 hA5 hD5 hG hSt hDd hgs hgd Hvs
 go_wp2_with fail
 refine wp_loop_rounds 3 ?_
 refine rounds_step (n:=2) ?_
 obtain ⟨n0,hn0,hh0⟩:=HC.out.no
 obtain ⟨_,eK,_,hx⟩:=ownK_elem clL_len4 hI.o 0 (by simp)
 injection eK with eK
 injection eK with eK
 subst eK
 replace hx:At oV X gc 0 (clL c.non):=hx
 have hZ:Row oV (X.alloc (.cells zCl 65)) X.heap.size 65 [ow 0,ow 0,ow 0,ow 0]:=Row.new _ _ rfl
 go_wp2_with (first
  | ((with_reducible refine load_agg (f:=oV) (l:=clL c.non) (C:=clA c.non) aggCl (.tmp 33) ?_ ?_ gc 0 ?_ hx rfl ?_);rfl;rfl;rfl)
  | ((with_reducible refine store_agg (f:=oV) (l:=[ow 0,ow 0,ow 0,ow 0]) (l':=clL c.non) (t:=65) (C:=clA c.non) aggCl (.tmp 9) (.tmp 34) ?_ ?_ X.heap.size ?_ ?_ ?_ hZ ?_ oV_one ?_);rfl;rfl;rfl;rfl;rfl;rfl;(intro W02 hr2 hG2 hz2);(refine Pause.back ?_)))
 have hB2:Below X.heap.size X W02:=((Below.refl _ _).alloc (Nat.le_refl _) _).grown hG2 (by simp) (fun k e=>by injection e with e;rw [← e];exact Nat.le_refl _)
 have hI2:=hI.below hB2
 have hls:=hI.st.lt
 have hld:=hI.dd.lt
 obtain ⟨xr0,Hxr⟩:∃n,Hid (X.heap.size=n):=⟨_,Lib.hid rfl⟩
 rw [Hxr.out] at hr2 hls hld ⊢
 clear hx hZ hG2 hz2 hB2 hI Hxr
 have cs:=rowN_at hI2.st 0 (by decide)
 have fs:=hI2.st.frozen 0
 have hI3:LtI w c N gc cap gs gd [2,0] [0,0] (W02.setCell ⟨gs,0,none⟩ (.int .i64 2)):=hI2.setS hN5 hgs2 hne hcN 0 2
 have cd:=rowN_at hI3.dd 0 (by decide)
 have fd:=hI3.dd.frozen 0
 have hI4:LtI w c N gc cap gs gd [2,0] [2,0] ((W02.setCell ⟨gs,0,none⟩ (.int .i64 2)).setCell ⟨gd,0,none⟩ (.int .i64 2)):=hI3.setD hN5 hgd2 hne hcN 0 2
 have hr4:=(hr2.grown (grown_cell W02 gs 0 (.int .i64 2)) (fun e=>by injection e with e;omega)).grown (grown_cell _ gd 0 (.int .i64 2)) (fun e=>by injection e with e;omega)
 clear hI2 hI3 hr2
 refine Pause.out ?_
 go_upto_region 10 with (fail)
 generalize ((W02.setCell ⟨gs,0,none⟩ (.int .i64 2)).setCell ⟨gd,0,none⟩ (.int .i64 2))=Y0 at hI4 hr4 ⊢
 clear cs fs cd fd hls hld
 refine wp_region_held (S:=fun Y=>Below Y0.heap.size Y0 Y) rfl ?_
 have hS:=(Below.refl Y0.heap.size Y0).drew
 refine tkD 0 41 (.agg (clA c)) hS ?_ rfl (yieldsIf_load (f:=oV) (l:=clL c) aggCl (.tmp 1) rfl w.heap.size 0 rfl (fun W' h=>(hI4.below h).s.2.1.at) rfl rfl)
 refine tkD 1 42 (.agg (clA c.non)) hS ?_ rfl (yieldsIf_load (f:=oV) (l:=clL c.non) aggCl (.tmp 9) rfl xr0 0 rfl (fun W' h=>(hr4.below h hr4.lt).at) rfl rfl)
 refine rdH 2 (fun K' hK=> ?_)
 refine cD 43 178 #[.agg (clA c.non)] ?_
 refine (clLeast Y0.drew c.non (HT.out.below (hI4.s.1.trans (hS.mono hI4.s.1.size)) Htl.out)).mono ?_
 rintro e Wa0 ⟨rfl,hBa⟩
 rw [hn0]
 have hSa:=hS.trans (hBa.mono hS.size)
 refine ⟨_,rfl,hK.out _ _ hSa fun _=> ?_⟩
 clear hK hBa hS
 have hS:=hSa
 simp only [sA,sB,sC]
 have hw8:IntKind.u8.wrap (n0.toNat:Int)=(n0.toNat:Int):=by rw [IntKind.wrap_u8];have:=n0.toNat_lt;omega
 refine tkD 3 44 (.int .u8 (n0.toNat:Int)) hS ?_ rfl yg
 refine rdH 4 (fun K' hK=> ?_)
 refine cD 45 118 #[.agg (clA c), .int .u8 (n0.toNat:Int)] ?_
 refine (clHas Wa0 c n0).mono ?_
 rintro e Wb0 ⟨rfl,hBb⟩
 rw [hh0]
 have hSb:=hS.trans (hBb.mono hS.size)
 refine ⟨_,rfl,hK.out _ _ hSb fun _=> ?_⟩
 clear hK hBb hS
 simp only [sA,sB,sC]
 refine wpAnyH_done (by kernel_rfl) ?_ _
 have hI:=hI4.below hSb
 clear hI4 hr4 hSb hSa hw8 hn0 hh0
 go_wp2_with fail
 refine rounds_step (n:=1) ?_
 obtain ⟨n1,hn1,hh1⟩:=HC.out.yes
 obtain ⟨_,eK,_,hx⟩:=ownK_elem clL_len4 hI.o 1 (by simp)
 injection eK with eK
 injection eK with eK
 subst eK
 replace hx:At oV Wb0 gc 4 (clL c):=hx
 have hZ:Row oV (Wb0.alloc (.cells zCl 65)) Wb0.heap.size 65 [ow 0,ow 0,ow 0,ow 0]:=Row.new _ _ rfl
 go_wp2_with (first
  | ((with_reducible refine load_agg (f:=oV) (l:=clL c) (C:=clA c) aggCl (.tmp 33) ?_ ?_ gc 4 ?_ hx rfl ?_);rfl;rfl;rfl)
  | ((with_reducible refine store_agg (f:=oV) (l:=[ow 0,ow 0,ow 0,ow 0]) (l':=clL c) (t:=65) (C:=clA c) aggCl (.tmp 9) (.tmp 34) ?_ ?_ Wb0.heap.size ?_ ?_ ?_ hZ ?_ oV_one ?_);rfl;rfl;rfl;rfl;rfl;rfl;(intro W12 hr2 hG2 hz2);(refine Pause.back ?_)))
 have hB2:Below Wb0.heap.size Wb0 W12:=((Below.refl _ _).alloc (Nat.le_refl _) _).grown hG2 (by simp) (fun k e=>by injection e with e;rw [← e];exact Nat.le_refl _)
 have hI2:=hI.below hB2
 have hls:=hI.st.lt
 have hld:=hI.dd.lt
 obtain ⟨xr1,Hxr⟩:∃n,Hid (Wb0.heap.size=n):=⟨_,Lib.hid rfl⟩
 rw [Hxr.out] at hr2 hls hld ⊢
 clear hx hZ hG2 hz2 hB2 hI Hxr
 have cs:=rowN_at hI2.st 1 (by decide)
 have fs:=hI2.st.frozen 1
 have hI3:LtI w c N gc cap gs gd [2,2] [2,0] (W12.setCell ⟨gs,1,none⟩ (.int .i64 2)):=hI2.setS hN5 hgs2 hne hcN 1 2
 have cd:=rowN_at hI3.dd 1 (by decide)
 have fd:=hI3.dd.frozen 1
 have hI4:LtI w c N gc cap gs gd [2,2] [2,2] ((W12.setCell ⟨gs,1,none⟩ (.int .i64 2)).setCell ⟨gd,1,none⟩ (.int .i64 2)):=hI3.setD hN5 hgd2 hne hcN 1 2
 have hr4:=(hr2.grown (grown_cell W12 gs 1 (.int .i64 2)) (fun e=>by injection e with e;omega)).grown (grown_cell _ gd 1 (.int .i64 2)) (fun e=>by injection e with e;omega)
 clear hI2 hI3 hr2
 refine Pause.out ?_
 go_upto_region 10 with (fail)
 generalize ((W12.setCell ⟨gs,1,none⟩ (.int .i64 2)).setCell ⟨gd,1,none⟩ (.int .i64 2))=Y1 at hI4 hr4 ⊢
 clear cs fs cd fd hls hld
 refine wp_region_held (S:=fun Y=>Below Y1.heap.size Y1 Y) rfl ?_
 have hS:=(Below.refl Y1.heap.size Y1).drew
 refine tkD 0 41 (.agg (clA c)) hS ?_ rfl (yieldsIf_load (f:=oV) (l:=clL c) aggCl (.tmp 1) rfl w.heap.size 0 rfl (fun W' h=>(hI4.below h).s.2.1.at) rfl rfl)
 refine tkD 1 42 (.agg (clA c)) hS ?_ rfl (yieldsIf_load (f:=oV) (l:=clL c) aggCl (.tmp 9) rfl xr1 0 rfl (fun W' h=>(hr4.below h hr4.lt).at) rfl rfl)
 refine rdH 2 (fun K' hK=> ?_)
 refine cD 43 178 #[.agg (clA c)] ?_
 refine (clLeast Y1.drew c (HT.out.below (hI4.s.1.trans (hS.mono hI4.s.1.size)) Htl.out)).mono ?_
 rintro e Wa1 ⟨rfl,hBa⟩
 rw [hn1]
 have hSa:=hS.trans (hBa.mono hS.size)
 refine ⟨_,rfl,hK.out _ _ hSa fun _=> ?_⟩
 clear hK hBa hS
 have hS:=hSa
 simp only [sA,sB,sC]
 have hw8:IntKind.u8.wrap (n1.toNat:Int)=(n1.toNat:Int):=by rw [IntKind.wrap_u8];have:=n1.toNat_lt;omega
 refine tkD 3 44 (.int .u8 (n1.toNat:Int)) hS ?_ rfl yg
 refine rdH 4 (fun K' hK=> ?_)
 refine cD 45 118 #[.agg (clA c), .int .u8 (n1.toNat:Int)] ?_
 refine (clHas Wa1 c n1).mono ?_
 rintro e Wb1 ⟨rfl,hBb⟩
 rw [hh1]
 have hSb:=hS.trans (hBb.mono hS.size)
 refine ⟨_,rfl,hK.out _ _ hSb fun _=> ?_⟩
 clear hK hBb hS
 simp only [sA,sB,sC]
 refine wpAnyH_done (by kernel_rfl) ?_ _
 have hI:=hI4.below hSb
 clear hI4 hr4 hSb hSa hw8 hn1 hh1
 have cs:=rowN_at hI.st 1 (by decide)
 have fs:=hI.st.frozen 1
 have hI6:LtI w c N gc cap gs gd [2,1] [2,2] (Wb1.setCell ⟨gs,1,none⟩ (.int .i64 1)):=hI.setS hN5 hgs2 hne hcN 1 1
 clear hI
 have hI:=hI6
 clear hI6
 go_wp2_with fail
 generalize (Wb1.setCell ⟨gs,1,none⟩ (.int .i64 1))=X2 at hI ⊢
 clear cs fs
 refine rounds_step (n:=0) ?_
 go_wp2_with fail
 have hdl:=hI.dd.lt
 refine (Tryz.slices_Clone_int gd 0 2 2 [2,2] X2 (by decide) (by decide) (fun j hj=> ?_)).mono ?_
 ·rw [Nat.zero_add,rowN_at hI.dd j hj]
  match j,hj with
  | 0,_=>rfl
  | 1,_=>rfl
 rintro e Wc ⟨vd,rfl,hVd,_,hBc⟩
 replace hVd:Mem.Own nV Wc X2.heap.size 3 vd [2,2]:=hVd
 obtain ⟨pd,kd,rfl⟩:=hVd.slice
 have hdx:=hI.d.lt
 replace hI:=hI.below hBc
 clear hdl hBc
 have hdl:=hI.d.lt
 have hdc:Wc.cell? ⟨N+1,1,none⟩=some (.slice none 0 0):=by rw [hI.d.cell?];rfl
 have hdf:=hI.d.frozen 1
 go_upto_region 14 with (fail)
 have hgc':=grown_cell Wc (N+1) 1 (.slice (some ⟨Wc.heap.size,0,none⟩) 3 3)
 have hal:Below (Wc.setCell ⟨N+1,1,none⟩ (.slice (some ⟨Wc.heap.size,0,none⟩) 3 3)).heap.size (Wc.setCell ⟨N+1,1,none⟩ (.slice (some ⟨Wc.heap.size,0,none⟩) 3 3)) ((Wc.setCell ⟨N+1,1,none⟩ (.slice (some ⟨Wc.heap.size,0,none⟩) 3 3)).alloc (.cells #[.slice (some ⟨gs,0,none⟩) 2 2, .slice (some ⟨gd,0,none⟩) 2 2, .slice pd 2 kd] 92)):=(Below.refl _ _).alloc (Nat.le_refl _) _
 have hd1:Row oV (Wc.setCell ⟨N+1,1,none⟩ (.slice (some ⟨Wc.heap.size,0,none⟩) 3 3)) (N+1) 79 (slO3 (some ⟨gc,0,none⟩) 2 cap (some ⟨Wc.heap.size,0,none⟩) 3 3 (some ⟨N,0,none⟩) 3 3):=hI.d.set 1 ⟨.slice (some ⟨Wc.heap.size,0,none⟩) 3 3,rfl⟩
 have hd2:=hd1.below hal hd1.lt
 have ho2:=(hI.o.grown hgc' (fun g e e2=>by injection e2 with e2;have:=hcN g e;omega)).below' hal
 have ha1:=hI.a.grown hgc' (fun e=>by injection e with e;omega)
 have ha2:=ha1.below hal ha1.lt
 have hs1:=hI.st.grown hgc' (fun e=>by injection e with e;omega)
 have hs2:=hs1.below hal hs1.lt
 have hdd1:=hI.dd.grown hgc' (fun e=>by injection e with e;omega)
 have hdd2:=hdd1.below hal hdd1.lt
 have hn2:Row oV ((Wc.setCell ⟨N+1,1,none⟩ (.slice (some ⟨Wc.heap.size,0,none⟩) 3 3)).alloc (.cells #[.slice (some ⟨gs,0,none⟩) 2 2, .slice (some ⟨gd,0,none⟩) 2 2, .slice pd 2 kd] 92)) Wc.heap.size 92 (slO3 (some ⟨gs,0,none⟩) 2 2 (some ⟨gd,0,none⟩) 2 2 pd 2 kd):=by
  have h:=Row.new (f:=oV) (Wc.setCell ⟨N+1,1,none⟩ (.slice (some ⟨Wc.heap.size,0,none⟩) 3 3)) (t:=92) (l:=slO3 (some ⟨gs,0,none⟩) 2 2 (some ⟨gd,0,none⟩) 2 2 pd 2 kd) (.cells #[.slice (some ⟨gs,0,none⟩) 2 2, .slice (some ⟨gd,0,none⟩) 2 2, .slice pd 2 kd] 92) rfl
  rwa [show (Wc.setCell ⟨N+1,1,none⟩ (.slice (some ⟨Wc.heap.size,0,none⟩) 3 3)).heap.size=Wc.heap.size by simp] at h
 have hv2:=(hVd.kept hgc' (fun g hg e=>by injection e with e;have:=(hVd.lt g hg).1;omega)).below' hal
 have hc1:LtS w (Wc.setCell ⟨N+1,1,none⟩ (.slice (some ⟨Wc.heap.size,0,none⟩) 3 3)) c:=
  ⟨hI.s.1.grown hgc' hI.s.1.size (fun j e=>by injection e with e;omega),hI.s.2.1.grown hgc' (fun e=>by injection e with e;omega),hI.s.2.2.1.grown hgc' (fun e=>by injection e with e;omega),Nat.le_trans hI.s.2.2.2 hgc'.size⟩
 have hc2:=hc1.up hc1.2.2.2 hal
 generalize ((Wc.setCell ⟨N+1,1,none⟩ (.slice (some ⟨Wc.heap.size,0,none⟩) 3 3)).alloc (.cells #[.slice (some ⟨gs,0,none⟩) 2 2, .slice (some ⟨gd,0,none⟩) 2 2, .slice pd 2 kd] 92))=W9 at hd2 ho2 ha2 hs2 hdd2 hn2 hv2 hc2 ⊢
 clear hal hd1 ha1 hs1 hdd1 hc1
 clear hdc hdf hgc' hVd hI
 generalize Wc.heap.size=gn at hd2 hn2 ⊢
 have hDf:DfAt W9 (.agg #[.slice (some ⟨gc,0,none⟩) 2 cap, .slice (some ⟨gn,0,none⟩) 3 3, .slice (some ⟨N,0,none⟩) 3 3]) (lettersD c):=by
  refine ⟨_,_,_,rfl,ho2.rd clL_len4, .inr ⟨gn,0,3,rfl,Nat.le_refl _,fun i hi=> ?_,hn2.lt⟩, .inr ⟨N,0,3,rfl,Nat.le_refl _,ha2.at,ha2.lt⟩⟩
  match i,hi with
  | 0,_=>exact ⟨.slice (some ⟨gs,0,none⟩) 2 2,by rw [hn2.cell?];rfl, .inr ⟨gs,0,2,rfl,Nat.le_refl _,hs2.at,hs2.lt⟩⟩
  | 1,_=>exact ⟨.slice (some ⟨gd,0,none⟩) 2 2,by rw [hn2.cell?];rfl, .inr ⟨gd,0,2,rfl,Nat.le_refl _,hdd2.at,hdd2.lt⟩⟩
  | 2,_=>exact ⟨.slice pd 2 kd,by rw [hn2.cell?];rfl,hv2.rd⟩
 have Hcan:=Lib.hid (tCanonV W9 _ (lettersD c) hDf HC.out.v (HT.out.below hc2.1 Htl.out) (Nat.lt_of_lt_of_le Htl.out hc2.1.size))
 have hR9:=hc2.2.2.1
 have hB9:=hc2.1
 have hL9:=hc2.2.2.2
 clear ho2 ha2 hs2 hdd2 hn2 hv2 hDf hc2
 have HOKT:=Lib.hid (tabOf_ok HC.out.v.toOk)
 obtain ⟨D,HD⟩:∃D,Hid ((tabOf (lettersD c)).canon=D):=⟨_,Lib.hid rfl⟩
 have HDO:Hid D.Ok:=Lib.hid (HD.out▸HOKT.out.canon.1)
 rw [HD.out] at Hcan
 have HE:Hid (∀(w':World) v,DfRes w' v (.ok D)→DfRes w' v (.ok (tabOf (lettersD c)).canon)):=Lib.hid (fun w' v h=>by rw [HD.out];exact h)
 go_wp2_with ((with_reducible refine load_agg (f:=oV) (l:=slO3 (some ⟨gc,0,none⟩) 2 cap (some ⟨gn,0,none⟩) 3 3 (some ⟨N,0,none⟩) 3 3) (C:= #[.slice (some ⟨gc,0,none⟩) 2 cap, .slice (some ⟨gn,0,none⟩) 3 3, .slice (some ⟨N,0,none⟩) 3 3]) aggD (.tmp 5) ?_ ?_ (N+1) 0 ?_ hd2.at ?_ ?_);rfl;rfl;rfl;rfl)
 refine Hcan.out.mono ?_
 rintro e Wf ⟨v,rfl,⟨u,rfl,hu⟩,hBf⟩
 obtain ⟨q1,j1,q2,j2,q3,j3,rfl⟩:=hu.parts
 have hRf:=hR9.below hBf (by omega)
 obtain ⟨n1,Hn1⟩:∃n,Hid (D.cls.length=n):=⟨_,Lib.hid rfl⟩
 obtain ⟨n2,Hn2⟩:∃n,Hid (D.nx.length=n):=⟨_,Lib.hid rfl⟩
 obtain ⟨n3,Hn3⟩:∃n,Hid (D.ac.length=n):=⟨_,Lib.hid rfl⟩
 rw [Hn1.out,Hn2.out,Hn3.out] at hu ⊢
 go_wp2_with ((with_reducible refine store_agg (f:=oV) (l:=[on,on,on]) (l':=slO3 q1 n1 j1 q2 n2 j2 q3 n3 j3) (t:=79) (C:= #[.slice q1 n1 j1, .slice q2 n2 j2, .slice q3 n3 j3]) aggD (.tmp 2) (.tmp 58) ?_ ?_ (w.heap.size+1) ?_ ?_ ?_ hRf ?_ oV_one ?_);rfl;rfl;rfl;rfl;rfl;rfl;(intro WZ hsZ hGZ hzZ))
 have hBZ:Below w.heap.size w WZ:=(hB9.trans (hBf.mono hB9.size)).grown hGZ (Nat.le_trans hB9.size hBf.size) (fun k e=>by injection e with e;omega)
 refine bodyPost_ret (v:= .tuple #[.agg #[.slice q1 n1 j1, .slice q2 n2 j2, .slice q3 n3 j3], .int .i64 0]) (results_agg2 (f:=oV) (l:=slO3 q1 n1 j1 q2 n2 j2 q3 n3 j3) (t:=3) rfl _ aggD (w.heap.size+1) 0 rfl hsZ.at) rfl ?_
 exact ⟨_,rfl,HE.out _ _ ⟨_,rfl,hu.avoid HDO.out hRf hGZ⟩,hBZ⟩
end Go.Proofs.YtncnfncglacheaaGreatDoor
