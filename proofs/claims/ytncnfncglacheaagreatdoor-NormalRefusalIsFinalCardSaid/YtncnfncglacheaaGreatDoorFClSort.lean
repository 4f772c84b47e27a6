/- Part of a proof. -/
import Derived.Test.YtncnfncglacheaaGreatDoorFCanP
set_option linter.all false
set_option maxRecDepth 100000
set_option maxHeartbeats 64000000
namespace Go.Proofs.YtncnfncglacheaaGreatDoor
section
open Go Go.RowKit Mem
section
variable {α:Type} {K:Nat} {enc:α→List OC} {w:World} {base:Nat} {e:TypeId} {l:List α}
variable {P:Program} {o:Oper} {a:Act} {Q:Exit→Act→World→Prop}
theorem FJ {K1:Act→World→Prop} {ty:TypeId} (T:bU P ty K) (hk:∀x,(enc x).length=K) (x y:Operand) (ho:o.op= .store ty x y) (g n c k off:Nat) (hoff:off=k * K) (hx:a.eval x= .pointer (some ⟨g,off,none⟩))
  (z:α) {C:Array Value} (hC:C=((enc z).map oV).toArray) (hy:a.eval y= .agg C) (h:aT K enc w base e (.slice (some ⟨g,0,none⟩) n c) l) (hkl:k<l.length)
  (hK:∀w',aT K enc w' base e (.slice (some ⟨g,0,none⟩) n c) (l.set k z)→w.grownBy w' (some g)→K1 (a.put o.dst undef) w'):o.wp P a w K1 Q:=by
 subst hC hoff;rcases h.2 with ⟨h0,_⟩ | ⟨g2,cap,cur,he,hbg,hc,hn,hm,hs,ht⟩
 ·cases h0
 ·injection he with he1 he2 GZ
  injection he1 with he1
  injection he1 with he1 _ _
  subst he1 he2 GZ
  have hsz:l.length * K≤cur.toList.length:=by
   rw [Io (xs:=cur),hs];exact O7 K hn
  obtain ⟨c1,c2⟩:=Gu hk l k hkl z cur.toList hsz ht
  have hkK:k * K+K≤l.length * K:=by
   have:=O7 K (show k+1≤l.length by omega);rw [Oj,TQ] at this;exact this
  have hrun:=run_storeCells_at P g (k * K) e ((enc z).map oV) 0 cur w hc (by rw [fD,hk];rw [Io (xs:=cur)] at hsz;omega) (fun v hv=>by obtain ⟨y,_,rfl⟩:=wS.1 hv;exact y.2);simp only [x8,fD,hk] at hrun
  have hr:(storeVar ty ⟨g,k * K,none⟩ (.agg ((enc z).map oV).toArray)).run P w= .ok () (w.setRow g (cur.toList.take (k * K)++(enc z).map oV++cur.toList.drop (k * K+K)).toArray):=by
   simp [storeVar,Value.cells,dR,T.size,hk];simpa using hrun
  unfold Oper.wp execOp;simp only [ho,hx,hy,Instr.storeAt,Instr.sureAddr,dR,iB,fT,hr];refine hK _ ?_ (o6 w g _);unfold aT;rw [ru];refine ⟨by rw [fD,zH enc _ hk,ru], .inr ⟨g,c,_,rfl,hbg,setRow_heap w g _ _ e (0,0) hc,hn,hm,?_,c1⟩⟩;rw [AZ,c2,Io (xs:=cur),hs]
end
theorem Ai (c:Cl): -1≤c.least∧c.least≤255:=by
 unfold Cl.least;cases h:jq c 256 with
 | nil=>simp
 | cons x l=>
  have:x∈jq c 256:=by rw [h];simp
  have:=acr c 256 x this;simp only;omega
theorem afu (w:World) (a b:Cl) (hT:iw w) (htl:1<w.heap.size):
  Calls Tryz.prog 226 #[.agg (ax a), .agg (ax b)] w fun e w'=>e= .returned (.int .i64 (a.least - b.least))∧Below w.heap.size w w':=by
 have r0:Row oV (w.alloc (.cells (ax a) 65)) w.heap.size 65 (aJ a):=Row.new _ _ rfl;have s0:(w.alloc (.cells (ax a) 65)).heap.size=w.heap.size+1:=bR _ _
 have r1:Row oV ((w.alloc (.cells (ax a) 65)).alloc (.cells (ax b) 65)) (w.heap.size+1) 65 (aJ b):=by
  have h:=Row.new (f:=oV) (w.alloc (.cells (ax a) 65)) (t:=65) (l:=aJ b) (.cells (ax b) 65) rfl
  rwa [s0] at h
 have r0':=r0.alloc (.cells (ax b) 65);have b0:Below w.heap.size w ((w.alloc (.cells (ax a) 65)).alloc (.cells (ax b) 65)):=((au _ _).alloc (ah _) _).alloc (by rw [s0];omega) _;clear r0 s0;go_enter Tryz.func226,Tryz.ntmps226;go_upto_region 1 with (fail);generalize ((w.alloc (.cells (ax a) 65)).alloc (.cells (ax b) 65))=W at r0' r1 b0 ⊢;have hl0:=r0'.lt;have hl1:=r1.lt;refine aH (S:=fun X=>Below W.heap.size W X) 5 rfl (by kernel_rfl) (au _ _).drew fun hS=> ?_;refine tk 0 5 (.agg (ax a)) hS ?_ rfl (aA (f:=oV) (l:=aJ a) ay (.tmp 2) rfl w.heap.size 0 rfl (fun W' h=>(r0'.below h hl0).at) rfl rfl);refine tk 2 7 (.agg (ax b)) hS ?_ rfl (aA (f:=oV) (l:=aJ b) ay (.tmp 3) rfl (w.heap.size+1) 0 rfl (fun W' h=>(r1.below h hl1).at) rfl rfl);refine iZ 1 (fun K' hK=> ?_);refine cD 6 178 #[.agg (ax a)] ?_;refine (Cf W.drew a ((hT.below b0 htl).below hS (bO htl b0.size))).mono ?_;rintro e Wa ⟨rfl,hBa⟩;obtain ⟨al,YE⟩:∃n,Hid (a.least=n):=⟨_,af rfl⟩
 obtain ⟨bl,yV⟩:∃n,Hid (b.least=n):=⟨_,af rfl⟩
 have ha1:=Ai a;have hb1:=Ai b;rw [YE.out] at ha1 ⊢;rw [yV.out] at hb1;have jy:=hS.trans (hBa.mono hS.size);refine ⟨_,rfl,hK.out _ _ jy fun _=> ?_⟩;clear hK hBa hS;have hS:=jy;simp only [sA,sB,sC];refine iZ 3 (fun K' hK=> ?_);refine cD 8 178 #[.agg (ax b)] ?_;refine (Cf Wa b ((hT.below b0 htl).below hS (bO htl b0.size))).mono ?_;rintro e Wb ⟨rfl,hBb⟩;rw [yV.out];have hSb:=hS.trans (hBb.mono hS.size);refine ⟨_,rfl,hK.out _ _ hSb fun _=> ?_⟩;clear hK hBb hS jy;have hS:=hSb;simp only [sA,sB,sC];refine tk 4 9 (.int .i64 (al - bl)) hS ?_ rfl (yo fun w=>by go_simp;rw [qds];omega);refine aP (by kernel_rfl) ?_;simp only [List.drop];go_wp2_with fail;go_ret;exact ⟨by rw [YE.out,yV.out];rfl,b0.trans (hSb.mono b0.size)⟩
theorem zy {w:World} {base g cap:Nat} {a b:Cl} (h:aT 4 aJ w base 65 (.slice (some ⟨g,0,none⟩) 2 cap) [a,b]):At oV w g 0 (aJ a)∧At oV w g 4 (aJ b)∧base≤g∧g<w.heap.size:=by
 obtain ⟨g1,e1,h1,h2⟩:=gG (p:=some ⟨g,0,none⟩) (c:=cap) (l:=[a,b]) eH h 0 (by simp);obtain ⟨g2,e2,_,h3⟩:=gG (p:=some ⟨g,0,none⟩) (c:=cap) (l:=[a,b]) eH h 1 (by simp);injection e1 with e1
 injection e1 with e1
 injection e2 with e2
 injection e2 with e2
 subst e1;subst e2;refine ⟨?_,?_,(h.lt g rfl).1,h1⟩
 ·simpa using h2
 ·simpa using h3
def mM (g cap:Nat) (a b:Cl):List Value:=
 [.slice (some ⟨g,0,none⟩) 2 cap, .int .i64 1, .slice (some ⟨g,0,none⟩) 2 cap, .int .i64 1, .int .i64 0, .slice (some ⟨g,0,none⟩) 2 cap, .int .i64 1, .int .i64 0, .pointer (some ⟨g,0,none⟩), .agg (ax a), .slice (some ⟨g,0,none⟩) 2 cap, .int .i64 1, .pointer (some ⟨g,4,none⟩), .agg (ax b), .pointer (some ⟨g,4,none⟩)]
theorem QF (w:World) (base g cap:Nat) (a b:Cl) (ho:aT 4 aJ w base 65 (.slice (some ⟨g,0,none⟩) 2 cap) [a,b]) (hlt:b.least<a.least) (hT:iw w) (htl:1<w.heap.size):
  Calls Tryz.prog 265 #[.slice (some ⟨g,0,none⟩) 2 cap, .int .i64 0, .int .i64 2, .func (.func 226) #[] #[]] w fun e w'=>e= .returned (.tuple #[])∧aT 4 aJ w' base 65 (.slice (some ⟨g,0,none⟩) 2 cap) [b,a]∧w.grownBy w' (some g):=by
 have HO:=af ho;have HL:=af hlt;have HT:=af hT;have iL:=af htl;clear ho hlt hT htl;go_enter Tryz.func265,Tryz.ntmps265;go_wp2_with fail;refine uT 2 ?_;refine ak (n:=1) ?_;go_wp2_with fail;refine uT 2 ?_;refine ak (n:=1) ?_
 have hW:∀X,Below w.heap.size w X→At oV X g 0 (aJ a)∧At oV X g 4 (aJ b):=fun X h=>by
  obtain ⟨h1,h2,_,h4⟩:=zy HO.out;exact ⟨h1.below h h4,h2.below h h4⟩
 go_upto_region 4 with (fail);refine aH (S:=fun X=>Below w.heap.size w X) 16 rfl (by kernel_rfl) (au _ _).drew fun hS=> ?_;refine tk 0 18 (.int .i64 1) hS ?_;refine tk 1 19 (.int .i64 0) hS ?_;refine tk 2 20 (.bool true) hS ?_;refine tk 3 21 (.bool true) hS ?_;refine tk 4 22 (.func (.func 226) #[] #[]) hS ?_;refine tk 5 23 (.slice (some ⟨g,0,none⟩) 2 cap) hS ?_;refine tk 6 24 (.int .i64 1) hS ?_;refine tk 7 25 (.pointer (some ⟨g,4,none⟩)) hS ?_;refine tk 8 26 (.agg (ax b)) hS ?_ rfl (aA (f:=oV) (l:=aJ b) ay (.tmp 25) rfl g 4 rfl (fun W' h=>(hW W' h).2) rfl rfl);refine tk 9 27 (.slice (some ⟨g,0,none⟩) 2 cap) hS ?_;refine tk 10 28 (.int .i64 1) hS ?_;refine tk 11 29 (.int .i64 0) hS ?_;refine tk 12 30 (.pointer (some ⟨g,0,none⟩)) hS ?_;refine tk 13 31 (.agg (ax a)) hS ?_ rfl (aA (f:=oV) (l:=aJ a) ay (.tmp 30) rfl g 0 rfl (fun W' h=>(hW W' h).1) rfl rfl);refine iZ 14 (fun K' hK=> ?_);refine cD 32 226 #[.agg (ax b), .agg (ax a)] ?_;refine (afu w.drew b a (HT.out.below hS iL.out) iL.out).mono ?_;rintro e Wa ⟨rfl,hBa⟩;obtain ⟨df,Hdf⟩:∃n,Hid (b.least - a.least=n):=⟨_,af rfl⟩
 have hneg:df<0:=by rw [← Hdf.out];have:=HL.out;omega
 rw [Hdf.out];have jy:=hS.trans (hBa.mono hS.size);refine ⟨_,rfl,hK.out _ _ jy fun _=> ?_⟩;clear hK hBa hS;have hS:=jy;simp only [sA,sB,sC];refine tk 15 33 (.bool true) hS ?_ rfl yg;refine aP (by kernel_rfl) ?_;simp only [List.drop];have hgW:Below w.heap.size w Wa:=jy;have HOA:=af (HO.out.below hgW (fun k e=>(HO.out.lt k e).2));obtain ⟨_,_,hbg,hgl⟩:=zy HO.out;clear hS jy hW;obtain ⟨sw,Hsw⟩:∃l:List Value,Hid (l=mM g cap a b):=⟨_,af rfl⟩
 go_upto_region 6 with (fail);refine oZ 16 [some 37,some 38,some 39,some 40,some 41,some 42,some 43,some 44,some 45,some 46,some 47,some 48,some 49,some 50,some 51,none] (fun dn X=>(dn 15=false→aT 4 aJ X base 65 (.slice (some ⟨g,0,none⟩) 2 cap) [a,b])∧(dn 15=true→aT 4 aJ X base 65 (.slice (some ⟨g,0,none⟩) 2 cap) [a,a])∧Wa.grownBy X (some g)) (fun i v _=>i=15∨v=(mM g cap a b).getD i undef) (fun _ _ _ _=>True) rfl (by kernel_rfl) (by kernel_rfl) ⟨fun _=>HOA.out,(fun e=>by cases e),⟨rfl,rfl,rfl,ah _,fun _ _ _=>rfl⟩⟩ ?_ ?_
 ·intro i o hi ho2 ac X dn val hK hd hdn hG;have hst:∀{i:Nat},i≠15→(((if 15=i then true else dn 15)=false→aT 4 aJ X base 65 (.slice (some ⟨g,0,none⟩) 2 cap) [a,b])∧((if 15=i then true else dn 15)=true→aT 4 aJ X base 65 (.slice (some ⟨g,0,none⟩) 2 cap) [a,a])∧Wa.grownBy X (some g)):=fun h=>by rw [aF (fun e=>h e.symm)];exact hG
  have hj:∀j,j<16→j≠i→dn j=true→(j=15∨val j=(mM g cap a b).getD j undef)∧True∧True:=fun j hj _ hdj=>⟨hK.got j hj hdj,trivial,trivial⟩
  match i,hi,ho2 with
  | _+16,h,_=>exact absurd h (by omega)
  | 0,_,ho2=>
   obtain rfl:=dJ ho2;have e0:ac.eval (.tmp 0)= .slice (some ⟨g,0,none⟩) 2 cap:=by show ac.tmps.getD 0 undef=_;rw [hK.old 0 (by decide)];rfl
   refine aB (v:= .slice (some ⟨g,0,none⟩) 2 cap) (w':=X) ?_ ⟨_,rfl,hst (by decide), .inr rfl,hj⟩;unfold execOp;simp only [e0];go_simp
  | 1,_,ho2=>
   obtain rfl:=dJ ho2;have e9:ac.eval (.tmp 9)= .int .i64 1:=by show ac.tmps.getD 9 undef=_;rw [hK.old 9 (by decide)];rfl
   refine aB (v:= .int .i64 1) (w':=X) ?_ ⟨_,rfl,hst (by decide), .inr rfl,hj⟩;unfold execOp;simp only [e9];go_simp
  | 2,_,ho2=>
   obtain rfl:=dJ ho2;have e0:ac.eval (.tmp 0)= .slice (some ⟨g,0,none⟩) 2 cap:=by show ac.tmps.getD 0 undef=_;rw [hK.old 0 (by decide)];rfl
   refine aB (v:= .slice (some ⟨g,0,none⟩) 2 cap) (w':=X) ?_ ⟨_,rfl,hst (by decide), .inr rfl,hj⟩;unfold execOp;simp only [e0];go_simp
  | 3,_,ho2=>
   obtain rfl:=dJ ho2;have e9:ac.eval (.tmp 9)= .int .i64 1:=by show ac.tmps.getD 9 undef=_;rw [hK.old 9 (by decide)];rfl
   refine aB (v:= .int .i64 1) (w':=X) ?_ ⟨_,rfl,hst (by decide), .inr rfl,hj⟩;unfold execOp;simp only [e9];go_simp
  | 4,_,ho2=>
   obtain rfl:=dJ ho2
   have e40:ac.eval (.tmp 40)=(mM g cap a b).getD 3 undef:=by
    show ac.tmps.getD 40 undef=_;rw [hK.slot 3 (by decide) (hd 3 (by kernel_rfl)) 40 rfl];rcases hK.got 3 (by decide) (hd 3 (by kernel_rfl)) with h | h
    ·cases h
    ·exact h
   have e40:ac.eval (.tmp 40)=_:=e40;simp only [mM,EA,FN] at e40;refine aB (v:= .int .i64 0) (w':=X) ?_ ⟨_,rfl,hst (by decide), .inr rfl,hj⟩;unfold execOp;simp only [e40];go_simp
   first | done | rfl | decide
  | 5,_,ho2=>
   obtain rfl:=dJ ho2;have e0:ac.eval (.tmp 0)= .slice (some ⟨g,0,none⟩) 2 cap:=by show ac.tmps.getD 0 undef=_;rw [hK.old 0 (by decide)];rfl
   refine aB (v:= .slice (some ⟨g,0,none⟩) 2 cap) (w':=X) ?_ ⟨_,rfl,hst (by decide), .inr rfl,hj⟩;unfold execOp;simp only [e0];go_simp
  | 6,_,ho2=>
   obtain rfl:=dJ ho2;have e9:ac.eval (.tmp 9)= .int .i64 1:=by show ac.tmps.getD 9 undef=_;rw [hK.old 9 (by decide)];rfl
   refine aB (v:= .int .i64 1) (w':=X) ?_ ⟨_,rfl,hst (by decide), .inr rfl,hj⟩;unfold execOp;simp only [e9];go_simp
  | 7,_,ho2=>
   obtain rfl:=dJ ho2
   have e43:ac.eval (.tmp 43)=(mM g cap a b).getD 6 undef:=by
    show ac.tmps.getD 43 undef=_;rw [hK.slot 6 (by decide) (hd 6 (by kernel_rfl)) 43 rfl];rcases hK.got 6 (by decide) (hd 6 (by kernel_rfl)) with h | h
    ·cases h
    ·exact h
   have e43:ac.eval (.tmp 43)=_:=e43;simp only [mM,EA,FN] at e43;refine aB (v:= .int .i64 0) (w':=X) ?_ ⟨_,rfl,hst (by decide), .inr rfl,hj⟩;unfold execOp;simp only [e43];go_simp
   first | done | rfl | decide
  | 8,_,ho2=>
   obtain rfl:=dJ ho2
   have e42:ac.eval (.tmp 42)=(mM g cap a b).getD 5 undef:=by
    show ac.tmps.getD 42 undef=_;rw [hK.slot 5 (by decide) (hd 5 (by kernel_rfl)) 42 rfl];rcases hK.got 5 (by decide) (hd 5 (by kernel_rfl)) with h | h
    ·cases h
    ·exact h
   have e42:ac.eval (.tmp 42)=_:=e42;simp only [mM,EA,FN] at e42
   have e44:ac.eval (.tmp 44)=(mM g cap a b).getD 7 undef:=by
    show ac.tmps.getD 44 undef=_;rw [hK.slot 7 (by decide) (hd 7 (by kernel_rfl)) 44 rfl];rcases hK.got 7 (by decide) (hd 7 (by kernel_rfl)) with h | h
    ·cases h
    ·exact h
   have e44:ac.eval (.tmp 44)=_:=e44;simp only [mM,EA,FN] at e44;refine aB (v:= .pointer (some ⟨g,0,none⟩)) (w':=X) ?_ ⟨_,rfl,hst (by decide), .inr rfl,hj⟩;unfold execOp;simp only [e42,e44];go_simp
  | 9,_,ho2=>
   obtain rfl:=dJ ho2
   have e45:ac.eval (.tmp 45)=(mM g cap a b).getD 8 undef:=by
    show ac.tmps.getD 45 undef=_;rw [hK.slot 8 (by decide) (hd 8 (by kernel_rfl)) 45 rfl];rcases hK.got 8 (by decide) (hd 8 (by kernel_rfl)) with h | h
    ·cases h
    ·exact h
   have e45:ac.eval (.tmp 45)=_:=e45;simp only [mM,EA,FN] at e45
   have U6:dn 15=false:=by
    cases h:dn 15 with
    | false=>rfl
    | true=>
     have:=hK.clo 15 _ (by decide) rfl h 9 (by kernel_rfl);rw [hdn] at this;cases this
   have hAt:=(zy (hG.1 U6)).1;exact sW (f:=oV) (lv:=aJ a) ay (.tmp 45) rfl g 0 e45 hAt rfl ⟨_,rfl,hst (by decide), .inr rfl,hj⟩
  | 10,_,ho2=>
   obtain rfl:=dJ ho2;have e0:ac.eval (.tmp 0)= .slice (some ⟨g,0,none⟩) 2 cap:=by show ac.tmps.getD 0 undef=_;rw [hK.old 0 (by decide)];rfl
   refine aB (v:= .slice (some ⟨g,0,none⟩) 2 cap) (w':=X) ?_ ⟨_,rfl,hst (by decide), .inr rfl,hj⟩;unfold execOp;simp only [e0];go_simp
  | 11,_,ho2=>
   obtain rfl:=dJ ho2;have e9:ac.eval (.tmp 9)= .int .i64 1:=by show ac.tmps.getD 9 undef=_;rw [hK.old 9 (by decide)];rfl
   refine aB (v:= .int .i64 1) (w':=X) ?_ ⟨_,rfl,hst (by decide), .inr rfl,hj⟩;unfold execOp;simp only [e9];go_simp
  | 12,_,ho2=>
   obtain rfl:=dJ ho2
   have e47:ac.eval (.tmp 47)=(mM g cap a b).getD 10 undef:=by
    show ac.tmps.getD 47 undef=_;rw [hK.slot 10 (by decide) (hd 10 (by kernel_rfl)) 47 rfl];rcases hK.got 10 (by decide) (hd 10 (by kernel_rfl)) with h | h
    ·cases h
    ·exact h
   have e47:ac.eval (.tmp 47)=_:=e47;simp only [mM,EA,FN] at e47
   have e48:ac.eval (.tmp 48)=(mM g cap a b).getD 11 undef:=by
    show ac.tmps.getD 48 undef=_;rw [hK.slot 11 (by decide) (hd 11 (by kernel_rfl)) 48 rfl];rcases hK.got 11 (by decide) (hd 11 (by kernel_rfl)) with h | h
    ·cases h
    ·exact h
   have e48:ac.eval (.tmp 48)=_:=e48;simp only [mM,EA,FN] at e48;refine aB (v:= .pointer (some ⟨g,4,none⟩)) (w':=X) ?_ ⟨_,rfl,hst (by decide), .inr rfl,hj⟩;unfold execOp;simp only [e47,e48];go_simp
  | 13,_,ho2=>
   obtain rfl:=dJ ho2
   have e49:ac.eval (.tmp 49)=(mM g cap a b).getD 12 undef:=by
    show ac.tmps.getD 49 undef=_;rw [hK.slot 12 (by decide) (hd 12 (by kernel_rfl)) 49 rfl];rcases hK.got 12 (by decide) (hd 12 (by kernel_rfl)) with h | h
    ·cases h
    ·exact h
   have e49:ac.eval (.tmp 49)=_:=e49;simp only [mM,EA,FN] at e49
   have U6:dn 15=false:=by
    cases h:dn 15 with
    | false=>rfl
    | true=>
     have:=hK.clo 15 _ (by decide) rfl h 13 (by kernel_rfl);rw [hdn] at this;cases this
   have hAt:=(zy (hG.1 U6)).2.1;exact sW (f:=oV) (lv:=aJ b) ay (.tmp 49) rfl g 4 e49 hAt rfl ⟨_,rfl,hst (by decide), .inr rfl,hj⟩
  | 14,_,ho2=>
   obtain rfl:=dJ ho2
   have e37:ac.eval (.tmp 37)=(mM g cap a b).getD 0 undef:=by
    show ac.tmps.getD 37 undef=_;rw [hK.slot 0 (by decide) (hd 0 (by kernel_rfl)) 37 rfl];rcases hK.got 0 (by decide) (hd 0 (by kernel_rfl)) with h | h
    ·cases h
    ·exact h
   have e37:ac.eval (.tmp 37)=_:=e37;simp only [mM,EA,FN] at e37
   have e38:ac.eval (.tmp 38)=(mM g cap a b).getD 1 undef:=by
    show ac.tmps.getD 38 undef=_;rw [hK.slot 1 (by decide) (hd 1 (by kernel_rfl)) 38 rfl];rcases hK.got 1 (by decide) (hd 1 (by kernel_rfl)) with h | h
    ·cases h
    ·exact h
   have e38:ac.eval (.tmp 38)=_:=e38;simp only [mM,EA,FN] at e38;refine aB (v:= .pointer (some ⟨g,4,none⟩)) (w':=X) ?_ ⟨_,rfl,hst (by decide), .inr rfl,hj⟩;unfold execOp;simp only [e37,e38];go_simp
  | 15,_,ho2=>
   obtain rfl:=dJ ho2
   have e51:ac.eval (.tmp 51)=(mM g cap a b).getD 14 undef:=by
    show ac.tmps.getD 51 undef=_;rw [hK.slot 14 (by decide) (hd 14 (by kernel_rfl)) 51 rfl];rcases hK.got 14 (by decide) (hd 14 (by kernel_rfl)) with h | h
    ·cases h
    ·exact h
   have e51:ac.eval (.tmp 51)=_:=e51;simp only [mM,EA,FN] at e51
   have e46:ac.eval (.tmp 46)=(mM g cap a b).getD 9 undef:=by
    show ac.tmps.getD 46 undef=_;rw [hK.slot 9 (by decide) (hd 9 (by kernel_rfl)) 46 rfl];rcases hK.got 9 (by decide) (hd 9 (by kernel_rfl)) with h | h
    ·cases h
    ·exact h
   have e46:ac.eval (.tmp 46)=_:=e46;simp only [mM,EA,FN] at e46;refine FJ (K:=4) (enc:=aJ) ay eH (.tmp 51) (.tmp 46) rfl g 2 cap 1 4 rfl e51 a rfl e46 (hG.1 hdn) (by simp) ?_;intro X' hO' hG';refine ⟨undef,rfl,⟨fun h=> ?_,fun _=>hO',?_⟩, .inl rfl,hj⟩
   ·simp at h
   ·exact ⟨hG'.os.trans hG.2.2.os,hG'.tape.trans hG.2.2.tape,hG'.output.trans hG.2.2.output,aL hG.2.2.size hG'.size,fun k hk hn=>(hG'.block k (bO hk hG.2.2.size) hn).trans (hG.2.2.block k hk hn)⟩
 intro vs X dn hvl rC _ hdn hG;have hO2:=hG.2.1 (hdn 15 (by decide))
 have hv:∀i,i<15→vs.getD i undef=(mM g cap a b).getD i undef:=fun i hi=>by
  rcases rC i (by omega) with h | h
  ·omega
  ·exact h
 have hvs:vs=mM g cap a b++[vs.getD 15 undef]:=by
  apply List.ext_getElem
  ·rw [hvl];rfl
  ·intro i h1 h2;have hi:i<16:=by rw [hvl] at h1;exact h1
   by_cases U6:i<15
   ·have h3:=hv i U6;rw [dD,bM h1,qE] at h3;rw [h3,Jt (by exact U6),dD,bM (by exact U6)];rfl
   ·obtain rfl:i=15:=by omega
    rw [qct (by exact ah _)];rw [List.getElem_singleton,dD,bM h1];rfl
 generalize vs.getD 15 undef=v15 at hvs;subst hvs;clear hv rC hvl hdn;simp only [mM,T9,J4,iy,zZ,Cy,yh,List.drop];have hgr:=hG.2.2;clear hG;go_step;go_step;go_step;refine jA (C:=ax b) (enc:=aJ) ay eH (.tmp 52) (.tmp 50) rfl rfl g 2 cap 0 0 rfl rfl b rfl rfl hO2 (by simp) ?_;intro W5 nW jJ;have y8:aT 4 aJ W5 base 65 (.slice (some ⟨g,0,none⟩) 2 cap) [b,a]:=nW
 have Og:w.grownBy W5 (some g):=by
  have h1:=Mem.bf hgW (some g);exact (h1.trans hgr).trans jJ
 clear hO2 nW jJ hgr HOA;go_wp2_with fail;refine ak (n:=0) ?_;have hsz5:g<W5.heap.size:=(y8.lt g rfl).2;clear Hdf hneg hgW;go_upto_region 4 with (fail);refine aH (S:=fun X=>Below W5.heap.size W5 X) 16 rfl (by kernel_rfl) (au _ _).drew fun hS=> ?_;refine tk 0 18 (.int .i64 0) hS ?_;refine tk 1 19 (.int .i64 0) hS ?_;refine tk 2 20 (.bool false) hS ?_;refine tk 3 21 (.bool false) hS ?_;refine vO 4 22 undef hS ?_;refine vO 5 23 undef hS ?_;refine vO 6 24 undef hS ?_;refine vO 7 25 undef hS ?_;refine vO 8 26 undef hS ?_;refine vO 9 27 undef hS ?_;refine vO 10 28 undef hS ?_;refine vO 11 29 undef hS ?_;refine vO 12 30 undef hS ?_;refine vO 13 31 undef hS ?_;refine vO 14 32 undef hS ?_;refine vO 15 33 undef hS ?_;refine aP (by kernel_rfl) ?_;simp only [List.drop];go_wp2_with fail;refine ak (n:=0) ?_;go_wp2_with fail;go_end0;have hB:=(au W5.heap.size W5).drew;exact ⟨rfl,y8.below hB (fun k e=>(y8.lt k e).2),Og.trans (Mem.bf hB (some g))⟩
end
section
open Go Go.RowKit Mem
theorem afS (w:World) (base g cap:Nat) (a b:Cl) (lim:Int) (ho:aT 4 aJ w base 65 (.slice (some ⟨g,0,none⟩) 2 cap) [a,b]) (hlt:b.least<a.least) (hT:iw w) (htl:1<w.heap.size):
  Calls Tryz.prog 257 #[.slice (some ⟨g,0,none⟩) 2 cap, .int .i64 0, .int .i64 2, .int .i64 lim, .func (.func 226) #[] #[]] w fun e w'=>e= .returned (.tuple #[])∧aT 4 aJ w' base 65 (.slice (some ⟨g,0,none⟩) 2 cap) [b,a]∧w.grownBy w' (some g):=by
 have HI0:=af (QF w base g cap a b ho hlt hT htl);clear ho hlt hT htl;go_enter Tryz.func257,Tryz.ntmps257;go_wp2_with fail;refine uT 1 ?_;refine ak (n:=0) ?_;go_wp2_with fail;refine HI0.out.mono ?_;rintro e wI ⟨rfl,HI⟩;go_wp2_with fail;refine fJ (results_none rfl _ _ _) rfl ?_;exact ⟨rfl,HI⟩
theorem afz (w:World) (base g cap:Nat) (a b:Cl) (ho:aT 4 aJ w base 65 (.slice (some ⟨g,0,none⟩) 2 cap) [a,b]) (hlt:b.least<a.least) (hT:iw w) (htl:1<w.heap.size):
  Calls Tryz.prog 225 #[.slice (some ⟨g,0,none⟩) 2 cap, .func (.func 226) #[] #[]] w fun e w'=>e= .returned (.tuple #[])∧aT 4 aJ w' base 65 (.slice (some ⟨g,0,none⟩) 2 cap) [b,a]∧w.grownBy w' (some g):=by
 have hl:=af fun X=>(Tryz.bits_Len 2 X (by decide) (by decide));have HI0:=af fun lim=>afS w base g cap a b lim ho hlt hT htl;clear ho hlt hT htl;go_enter Tryz.func225,Tryz.ntmps225;go_wp2_with fail;refine (hl.out _).mono ?_;rintro e _ ⟨rfl,rfl⟩;go_wp2_with fail;refine (HI0.out _).mono ?_;rintro e wI ⟨rfl,HI⟩;go_wp2_with fail;go_end0;exact ⟨rfl,HI⟩
end
section
open Go Go.RowKit Mem
def gy:Cl:=⟨18446744073709551615,18446744073709551615,18446744073709551615,18446744073709551615⟩
theorem Zy:Cl.zip (fun x _=> ~~~x) ⟨0,0,0,0⟩ ⟨0,0,0,0⟩=gy:=by decide+kernel
theorem Tk (x:UInt64):18446744073709551615 &&& x=x:=by
 apply UInt64.eq_of_toBitVec_eq;simp only [UInt64.toBitVec_and];exact BitVec.allOnes_and
theorem Ye (x:Cl):Cl.zip (fun x y=>x &&& y) gy x=x:=by
 unfold Cl.zip gy;simp only [Tk]
theorem RJ (x:Cl):Cl.zip (fun x y=>x &&& ~~~y) gy x=x.non:=by
 unfold Cl.zip gy Cl.non;simp only [Tk]
theorem clZ:ax ⟨0,0,0,0⟩= #[.int .u64 0, .int .u64 0, .int .u64 0, .int .u64 0]:=by kernel_rfl
section
variable {ops:Array Oper} {rest:List Oper} {o:Oper} {a:Act} {Q:Exit→Act→World→Prop} {w:World}
theorem Sr (x y:Operand) (t:TypeId) (cx cy:Cl) (hne:cx≠cy) (hgd:o.guard=none) (ho:o.op= .binOp .neq 65 x y t) (hx:a.eval x= .agg (ax cx)) (hy:a.eval y= .agg (ax cy))
  (hk:wpList Tryz.prog ops Q rest (a.put o.dst (.bool true)) w):wpList Tryz.prog ops Q (o::rest) a w:=by
 refine LC hgd (fun W=> ?_) hk;unfold execOp;have hg:=run_eqGuard_agg (P:=Tryz.prog) W .neq 65 x y (ax cx) (ax cy) Rk;simp only [ho,hx,hy,dR,hg,Yc W cx cy hne,fT];rfl
end
theorem YQ (w:World) (g n:Nat) (c:Cl) (hA:At oV w g 0 (aJ c)) (hg:g<w.heap.size) (h0:c≠⟨0,0,0,0⟩) (h1:c.non≠⟨0,0,0,0⟩) (hlt:c.non.least<c.least) (hT:iw w) (htl:1<w.heap.size):
  Calls Tryz.prog 176 #[.slice (some ⟨g,0,none⟩) 1 n] w fun e w'=>∃p cap,e= .returned (.slice p 2 cap)∧aT 4 aJ w' w.heap.size 65 (.slice p 2 cap) [c.non,c]∧Below w.heap.size w w':=by
 have HA:=af hA;have H0:=af h0;have H1:=af h1;have HL:=af hlt;have HT:=af hT;have iL:=af htl;clear hA h0 h1 hlt hT htl;go_enter Tryz.func176,Tryz.ntmps176;go_wp2_with fail;refine (aa8 w ⟨0,0,0,0⟩).mono ?_;rw [Zy];rintro e w1 ⟨rfl,hB1⟩;go_wp2_with fail;refine uT 2 ?_;have hr1:Row oV (w1.alloc (.cells (ax gy) 65)) w1.heap.size 65 (aJ gy):=Row.new _ _ rfl;have hb1:Below w.heap.size w (w1.alloc (.cells (ax gy) 65)):=hB1.alloc hB1.size _;have hz1:=hB1.size;have ahN:w.heap.size≤w1.heap.size:=hB1.size;obtain ⟨W1,HW1⟩:∃W,Hid ((w1.alloc (.cells (ax gy) 65))=W):=⟨_,af rfl⟩
 rw [HW1.out] at hr1 hb1;change Code.rounds _ _ _ _ _ (w1.alloc (.cells (ax gy) 65));rw [HW1.out];clear hz1 hB1 HW1;have hA1:=HA.out.below hb1 hg;have hZ:Row oV (W1.alloc (.cells fV 65)) W1.heap.size 65 [ow 0,ow 0,ow 0,ow 0]:=Row.new _ _ rfl;refine ak (n:=1) ?_
 go_wp2_with (first
  | ((with_reducible refine zL hA1 ay rfl (C:=ax c) ?_))
  | ((with_reducible refine zS (l':=aJ c) hZ ay ?_);(intro W2 hr2 hG2 hz2);(refine bN.back ?_)))
 have hb2:Below w.heap.size w W2:=(hb1.alloc hb1.size _).grown hG2 (by have:=hb1.size;simp;omega) (fun k e=>by injection e with e;rw [← e];exact hb1.size);have abA:=(hr1.alloc (.cells fV 65)).grown hG2 (fun e=>by injection e with e;have:=hr1.lt;omega);have agV:W1.heap.size<W2.heap.size:=hr2.lt;clear hr1 hZ hA1 hG2 hz2;have hZ:Row oV (W2.alloc (.cells fV 65)) W2.heap.size 65 [ow 0,ow 0,ow 0,ow 0]:=Row.new _ _ rfl;have agq:=abA.lt;refine bN.out ?_;go_wp2_with fail;refine uT 2 ?_;refine ak (n:=1) ?_
 go_wp2_with (first
  | ((with_reducible refine zL abA.at ay rfl (C:=ax gy) ?_))
  | ((with_reducible refine zS (l':=aJ gy) hZ ay ?_);(intro W3 hr3 hG3 hz3);(refine bN.back ?_)))
 have hb3:Below w.heap.size w W3:=(hb2.alloc hb2.size _).grown hG3 (by have:=hb2.size;simp;omega) (fun k e=>by injection e with e;rw [← e];exact hb2.size);have Tc:=(hr2.alloc (.cells fV 65)).grown hG3 (fun e=>by injection e with e;omega);have aht:W2.heap.size<W3.heap.size:=hr3.lt;clear hr2 abA hZ hG3 hz3;refine bN.out ?_;go_upto_region 9 with (fail);refine wp_region_held (S:=fun X=>Below W3.heap.size W3 X) rfl ?_;have hS:=(au W3.heap.size W3).drew;refine dY 0 26 (.agg (ax gy)) hS ?_ rfl (aA (f:=oV) (l:=aJ gy) ay (.tmp 8) rfl W2.heap.size 0 rfl (fun W' h=>(hr3.below h hr3.lt).at) rfl rfl);refine dY 1 27 (.agg (ax c)) hS ?_ rfl (aA (f:=oV) (l:=aJ c) ay (.tmp 5) rfl W1.heap.size 0 rfl (fun W' h=>(Tc.below h Tc.lt).at) rfl rfl);refine dY 3 29 (.agg (ax gy)) hS ?_ rfl (aA (f:=oV) (l:=aJ gy) ay (.tmp 8) rfl W2.heap.size 0 rfl (fun W' h=>(hr3.below h hr3.lt).at) rfl rfl);refine dY 4 30 (.agg (ax c)) hS ?_ rfl (aA (f:=oV) (l:=aJ c) ay (.tmp 5) rfl W1.heap.size 0 rfl (fun W' h=>(Tc.below h Tc.lt).at) rfl rfl);refine dY 7 33 (.int .i64 0) hS ?_;refine wU 2 (fun K' hK=> ?_);refine cD 28 102 #[.agg (ax gy), .agg (ax c)] ?_;refine (RV W3.drew gy c).mono ?_;rw [Ye];rintro e Wa ⟨rfl,hBa⟩;have jy:=hS.trans (hBa.mono hS.size);refine ⟨_,rfl,hK.out _ _ jy fun _=> ?_⟩;clear hK hBa hS;have hS:=jy;simp only [sA,sB,sC];refine wU 5 (fun K' hK=> ?_);refine cD 31 224 #[.agg (ax gy), .agg (ax c)] ?_;refine (abG Wa gy c).mono ?_;rw [RJ];rintro e Wb ⟨rfl,hBb⟩;have hSb:=hS.trans (hBb.mono hS.size);refine ⟨_,rfl,hK.out _ _ hSb fun _=> ?_⟩;clear hK hBb hS jy;have hS:=hSb;simp only [sA,sB,sC];refine dY 6 32 (.agg #[.int .u64 (X c.a), .int .u64 (X c.b), .int .u64 (X c.c), .int .u64 (X c.d), .int .u64 (X (~~~c.a)), .int .u64 (X (~~~c.b)), .int .u64 (X (~~~c.c)), .int .u64 (X (~~~c.d))]) hS ?_;refine wpAnyH_done (by kernel_rfl) ?_ _;have hb4:=hb3.trans (hSb.mono hb3.size);have L8:=hSb.size;have hs3:=hb3.size;clear hS hSb hr3 Tc agV agq;go_wp2_with fail;refine uT 3 ?_;refine ak (n:=2) ?_;have hZ:Row oV (Wb.alloc (.cells fV 65)) Wb.heap.size 65 [ow 0,ow 0,ow 0,ow 0]:=Row.new _ _ rfl;have hC4:∀x:Cl,(ax x).size=4:=fun x=>rfl;have hL4:=aL hs3 L8
 go_wp2_with (first
  | ((with_reducible refine Lx (u:= .agg (ax c)) (.index 332 (.tmp 32) (.tmp 33)) ?_ ?_ ?_ ?_);rfl;rfl;(intro w;kernel_rfl))
  | ((with_reducible refine zS (l':=aJ c) hZ ay ?_);(intro W5 YN jJ Mh);(refine bN.back ?_)))
 have hb5:Below w.heap.size w W5:=(hb4.alloc hb4.size _).grown jJ (by have:=hb4.size;simp;omega) (fun k e=>by injection e with e;rw [← e];exact hb4.size);have afX:=hb5.size;clear hZ jJ Mh;refine bN.out ?_
 go_wp2_with (first
  | ((with_reducible refine zL YN.at ay rfl (C:=ax c) ?_))
  | ((with_reducible refine Sr (.tmp 36) (.tmp 37) 65 c ⟨0,0,0,0⟩ H0.out ?_ ?_ ?_ ?_ ?_);rfl;rfl;rfl;exact congrArg Value.agg clZ.symm)
  | (at_builtin;(with_reducible refine oF Uu (by decide) eH (.tmp 39) (.tmp 41) ?_ ?_ ?_ (aT.nil W5 w.heap.size 65) c _ ?_ _ ?_ ?_ ?_ ?_ [c] rfl ?_);rfl;rfl;rfl;rfl;rfl;(decide);(decide);(exact afX);(intro p6 c6 W6 Zn gH dw;refine bN.back ?_)))
 have hb6:Below w.heap.size w W6:=hb5.trans gH;clear YN dw gH hb5;have gP:=hb6.size;obtain ⟨g6,e6,_,_⟩:=gG eH Zn 0 (by simp);subst e6;have hZ:Row oV (W6.alloc (.cells fV 65)) W6.heap.size 65 [ow 0,ow 0,ow 0,ow 0]:=Row.new _ _ rfl;refine bN.out ?_;go_wp2_with fail;refine ak (n:=1) ?_
 go_wp2_with (first
  | ((with_reducible refine Lx (u:= .agg (ax c.non)) (.index 332 (.tmp 32) (.tmp 33)) ?_ ?_ ?_ ?_);rfl;rfl;(intro w;kernel_rfl))
  | ((with_reducible refine zS (l':=aJ c.non) hZ ay ?_);(intro W7 hr7 gL vZ);(refine bN.back ?_)))
 have hb7:Below w.heap.size w W7:=(hb6.alloc hb6.size _).grown gL (by have:=hb6.size;simp;omega) (fun k e=>by injection e with e;rw [← e];exact hb6.size);have YL:aT 4 aJ W7 w.heap.size 65 (.slice (some ⟨g6,0,none⟩) [c].length c6) [c]:=(Zn.grown (TN W6 (.cells fV 65) none) (fun _ _=>by simp)).grown gL (fun k hk e=>by injection e with e;have:=(Zn.lt k hk).2;omega);have Nl:=hb7.size;clear hZ gL vZ Zn;refine bN.out ?_
 go_wp2_with (first
  | ((with_reducible refine zL hr7.at ay rfl (C:=ax c.non) ?_))
  | ((with_reducible refine Sr (.tmp 36) (.tmp 37) 65 c.non ⟨0,0,0,0⟩ H1.out ?_ ?_ ?_ ?_ ?_);rfl;rfl;rfl;exact congrArg Value.agg clZ.symm)
  | (at_builtin;(with_reducible refine oF Uu (by decide) eH (.tmp 39) (.tmp 41) ?_ ?_ ?_ YL c.non _ ?_ _ ?_ ?_ ?_ ?_ [c,c.non] rfl ?_);rfl;rfl;rfl;rfl;rfl;(simp);(simp);(exact Nl);(intro p8 c8 W8 L6 jC iC;refine bN.back ?_)))
 have hb8:Below w.heap.size w W8:=hb7.trans jC;have ae6:1<W8.heap.size:=bO iL.out hb8.size;have hT8:=HT.out.below hb8 iL.out;obtain ⟨g8,e8,_,_⟩:=gG eH L6 0 (by simp);subst e8;have HS:=af (afz W8 w.heap.size g8 c8 c c.non L6 HL.out hT8 ae6);have hg8:=(L6.lt g8 rfl).1;clear hr7 iC jC hb7 YL L6 ae6 hT8;refine bN.out ?_;go_wp2_with fail;refine ak (n:=0) ?_;go_wp2_with fail;refine ak (n:=0) ?_;go_wp2_with fail;refine ak (n:=0) ?_;go_wp2_with fail;refine HS.out.mono ?_;rintro e W9 ⟨rfl,Qz,dB⟩;go_wp2_with fail;go_ret;exact ⟨_,_,rfl,Qz,hb8.grown dB hb8.size (fun k e=>by injection e with e;rw [← e];exact hg8)⟩
end
section
open Go Go.RowKit Mem
def dm (c:Cl):DF:=⟨[c.non,c],[[2,1],[2,2],[2,2]],[false,true,false]⟩
structure Cl.Let (c:Cl):Prop where
 size:c.size≠0
 h0:c≠⟨0,0,0,0⟩
 h1:c.non≠⟨0,0,0,0⟩
 lt:c.non.least<c.least
 v:(dm c).V
 no:∃n:UInt8,c.non.least=(n.toNat:Int)∧c.has n=false
 yes:∃n:UInt8,c.least=(n.toNat:Int)∧c.has n=true
def Vi (w W:World) (c:Cl):Prop:=Below w.heap.size w W∧Row oV W w.heap.size 65 (aJ c)∧Row oV W (w.heap.size+1) 79 [on,on,on]∧w.heap.size+2≤W.heap.size
theorem Vi.up {w W X:World} {c:Cl} (h:Vi w W c) {k:Nat} (hk:w.heap.size+2≤k) (hB:Below k W X):Vi w X c:=
 ⟨h.1.trans (hB.mono (by omega)),h.2.1.below hB (by omega),h.2.2.1.below hB (by omega),aL h.2.2.2 hB.size⟩
structure Bc (w:World) (c:Cl) (N gc cap gs gd:Nat) (st dd:List Nat) (X:World):Prop where
 s:Vi w X c
 o:aT 4 aJ X (w.heap.size+2) 65 (.slice (some ⟨gc,0,none⟩) 2 cap) [c.non,c]
 a:Row Value.bool X N 4 [false,true,false]
 d:Row oV X (N+1) 79 (bL (some ⟨gc,0,none⟩) 2 cap none 0 0 (some ⟨N,0,none⟩) 3 3)
 st:Row nV X gs 3 st
 dd:Row nV X gd 3 dd
theorem Bc.below {w X X':World} {c:Cl} {N gc cap gs gd:Nat} {st dd:List Nat} (h:Bc w c N gc cap gs gd st dd X) (hB:Below X.heap.size X X'):Bc w c N gc cap gs gd st dd X':=
 ⟨h.s.up h.s.2.2.2 hB,h.o.below' hB,h.a.below hB h.a.lt,h.d.below hB h.d.lt,h.st.below hB h.st.lt,h.dd.below hB h.dd.lt⟩
theorem Bc.Kw {w X:World} {c:Cl} {N gc cap gs gd:Nat} {st dd:List Nat} (h:Bc w c N gc cap gs gd st dd X) (hN:w.heap.size+2≤N) (hs:N+2≤gs) (hne:gd≠gs) (hc:∀k,(Value.slice (some ⟨gc,0,none⟩) 2 cap).ownBlock=some k→k<N) (k v:Nat):Bc w c N gc cap gs gd (st.set k v) dd (X.setCell ⟨gs,k,none⟩ (.int .i64 (v:Int))):=by
 have hg:=aI X gs k (.int .i64 (v:Int));refine ⟨⟨h.s.1.grown hg h.s.1.size (fun j e=>by injection e with e;omega),h.s.2.1.grown hg (fun e=>by injection e with e;omega),h.s.2.2.1.grown hg (fun e=>by injection e with e;omega),aL h.s.2.2.2 hg.size⟩,h.o.grown hg (fun g e e2=>by injection e2 with e2;have:=hc g e;omega),h.a.grown hg (fun e=>by injection e with e;omega),h.d.grown hg (fun e=>by injection e with e;omega),h.st.set k v,h.dd.grown hg (fun e=>by injection e with e;omega)⟩
theorem Bc.ad5 {w X:World} {c:Cl} {N gc cap gs gd:Nat} {st dd:List Nat} (h:Bc w c N gc cap gs gd st dd X) (hN:w.heap.size+2≤N) (hs:N+2≤gd) (hne:gd≠gs) (hc:∀k,(Value.slice (some ⟨gc,0,none⟩) 2 cap).ownBlock=some k→k<N) (k v:Nat):Bc w c N gc cap gs gd st (dd.set k v) (X.setCell ⟨gd,k,none⟩ (.int .i64 (v:Int))):=by
 have hg:=aI X gd k (.int .i64 (v:Int));refine ⟨⟨h.s.1.grown hg h.s.1.size (fun j e=>by injection e with e;omega),h.s.2.1.grown hg (fun e=>by injection e with e;omega),h.s.2.2.1.grown hg (fun e=>by injection e with e;omega),aL h.s.2.2.2 hg.size⟩,h.o.grown hg (fun g e e2=>by injection e2 with e2;have:=hc g e;omega),h.a.grown hg (fun e=>by injection e with e;omega),h.d.grown hg (fun e=>by injection e with e;omega),h.st.grown hg (fun e=>by injection e with e;omega),h.dd.set k v⟩
def PhL (N:Nat) (vs:Value) (i:Nat) (v:Value) (X:World):Prop:=
 match i with
 | 0 | 3=>v=vs
 | 1 | 4=>v= .int .i64 2
 | _=>∃g,v= .slice (some ⟨g,0,none⟩) 2 2∧N≤g∧Row nV X g 3 [0,0]
def PsL (i j:Nat) (v u:Value):Prop:=(i=5∧(j=2∨j=6))∨(j=5∧(i=2∨i=6))→v.ownBlock≠u.ownBlock
theorem PhL.below {N:Nat} {vs v:Value} {X X':World}:∀{i:Nat},PhL N vs i v X→Below X.heap.size X X'→PhL N vs i v X'
 | 0,h,_=>h
 | 1,h,_=>h
 | 3,h,_=>h
 | 4,h,_=>h
 | 2,⟨g,h1,h2,h3⟩,hb=>⟨g,h1,h2,h3.below hb h3.lt⟩
 | _+5,⟨g,h1,h2,h3⟩,hb=>⟨g,h1,h2,h3.below hb h3.lt⟩
theorem Xl {i j:Nat} {v u:Value} (h:i=0∨i=1∨i=3∨i=4):PsL i j v u∧PsL j i u v:=⟨fun e=>by omega,fun e=>by omega⟩
theorem Xp (w:World) (c:Cl) (hc:c.Let) (hT:iw w) (htl:1<w.heap.size):
  Calls Tryz.prog 136 #[.agg (ax c)] w fun e w'=>∃v,e= .returned v∧fQ w' v (.ok (bT (dm c)).canon)∧Below w.heap.size w w':=by
 have HC:=af hc;have HT:=af hT;have iL:=af htl;have hsz:=hc.size;clear hc hT htl
 have hS:Vi w ((w.alloc (.cells (ax c) 65)).alloc (.cells #[.slice none 0 0, .slice none 0 0, .slice none 0 0] 79)) c:=by
  have r0:Row oV (w.alloc (.cells (ax c) 65)) w.heap.size 65 (aJ c):=Row.new _ _ rfl;have s0:(w.alloc (.cells (ax c) 65)).heap.size=w.heap.size+1:=bR _ _;refine ⟨((au _ _).alloc (ah _) _).alloc (by rw [s0];omega) _,r0.alloc _,?_,by rw [bR,s0];omega⟩;have h:=Row.new (f:=oV) (w.alloc (.cells (ax c) 65)) (t:=79) (l:=[on,on,on]) (.cells #[.slice none 0 0, .slice none 0 0, .slice none 0 0] 79) rfl
  rwa [s0] at h
 go_enter Tryz.func136,Tryz.ntmps136;go_upto_region 1 with (fail);generalize ((w.alloc (.cells (ax c) 65)).alloc (.cells #[.slice none 0 0, .slice none 0 0, .slice none 0 0] 79))=W at hS ⊢;have hr:=hS.2.1.at;go_wp2_with ((with_reducible refine aU (f:=oV) (l:=aJ c) (C:=ax c) ay (.tmp 1) ?_ ?_ w.heap.size 0 ?_ hr rfl ?_);rfl;rfl;rfl);clear hr;refine (CZ W c).mono ?_;rintro e W1 ⟨rfl,hB1⟩;obtain ⟨sz,Hsz⟩:∃n,Hid (c.size=n):=⟨_,af rfl⟩
 rw [Hsz.out] at hsz ⊢;replace hS:=hS.up hS.2.2.2 hB1;clear hB1;have hr:=hS.2.1.at;go_wp2_with ((with_reducible refine aU (f:=oV) (l:=aJ c) (C:=ax c) ay (.tmp 1) ?_ ?_ w.heap.size 0 ?_ hr rfl ?_);rfl;rfl;rfl);clear hr;have hr2:Row oV (W1.alloc (.cells (ax c) 65)) W1.heap.size 65 (aJ c):=Row.new _ _ rfl;have hS2:=hS.up hS.2.2.2 ((au _ _).alloc (ah _) (.cells (ax c) 65));change Calls _ _ _ (W1.alloc (.cells (ax c) 65)) _;generalize (W1.alloc (.cells (ax c) 65))=W2 at hr2 hS2 ⊢;have hw2:w.heap.size≤W2.heap.size:=hS2.1.size;refine (YQ W2 W1.heap.size 1 c hr2.at hr2.lt HC.out.h0 HC.out.h1 HC.out.lt (HT.out.below hS2.1 iL.out) (bO iL.out hw2)).mono ?_;rintro e W3 ⟨p,cap,rfl,hO,hB3⟩;obtain ⟨gc,ec,ahn,_⟩:=gG eH hO 0 (by simp);subst ec;replace hO:=hO.mono (aL hS2.2.2.2 (ah _));have eP:=hS2.up hS2.2.2.2 hB3;clear hr2 hS2 hw2 hB3 hS hsz;go_upto_region 5 with (fail)
 obtain ⟨W5,hW5,hS5,nW,Uh,hD5,Mh⟩:∃W,((W3.alloc (.cells #[.bool false, .bool true, .bool false] 4)).alloc (.cells #[.slice (some ⟨gc,0,none⟩) 2 cap, .slice none 0 0, .slice (some ⟨W3.heap.size,0,none⟩) 3 3] 79))=W∧Vi w W c∧aT 4 aJ W (w.heap.size+2) 65 (.slice (some ⟨gc,0,none⟩) 2 cap) [c.non,c]∧Row Value.bool W W3.heap.size 4 [false,true,false]∧Row oV W (W3.heap.size+1) 79 (bL (some ⟨gc,0,none⟩) 2 cap none 0 0 (some ⟨W3.heap.size,0,none⟩) 3 3)∧W3.heap.size+2≤W.heap.size:=by
  have s0:(W3.alloc (.cells #[.bool false, .bool true, .bool false] 4)).heap.size=W3.heap.size+1:=bR _ _;have b0:=((au W3.heap.size W3).alloc (ah _) (.cells #[.bool false, .bool true, .bool false] 4)).alloc (by rw [s0];omega) (.cells #[.slice (some ⟨gc,0,none⟩) 2 cap, .slice none 0 0, .slice (some ⟨W3.heap.size,0,none⟩) 3 3] 79);refine ⟨_,rfl,eP.up eP.2.2.2 b0,hO.below' b0,(Row.new (f:=Value.bool) W3 (l:=[false,true,false]) _ rfl).alloc _,?_,by rw [bR,s0];omega⟩;have h:=Row.new (f:=oV) (W3.alloc (.cells #[.bool false, .bool true, .bool false] 4)) (t:=79) (l:=(bL (some ⟨gc,0,none⟩) 2 cap none 0 0 (some ⟨W3.heap.size,0,none⟩) 3 3)) (.cells #[.slice (some ⟨gc,0,none⟩) 2 cap, .slice none 0 0, .slice (some ⟨W3.heap.size,0,none⟩) 3 3] 79) rfl
  rwa [s0] at h
 rw [hW5];have Vn:w.heap.size+2≤W3.heap.size:=eP.2.2.2;clear hW5 hO eP;obtain ⟨N,HN⟩:∃N,Hid (W3.heap.size=N):=⟨_,af rfl⟩
 rw [HN.out] at Uh hD5 Mh Vn ⊢;have Zw:∀k,(Value.slice (some ⟨gc,0,none⟩) 2 cap).ownBlock=some k→k<N:=fun k e=>by injection e with e;have:=HN.out;have e3:gc=k:=e;omega
 obtain ⟨vs,Hvs⟩:∃v,Hid (Value.slice (some ⟨gc,0,none⟩) 2 cap=v):=⟨_,af rfl⟩
 refine oZ 7 [some 22,some 23,some 24,some 25,some 26,some 27,some 6] (fun _ X=>Below W5.heap.size W5 X) (PhL W5.heap.size (.slice (some ⟨gc,0,none⟩) 2 cap)) PsL rfl (by kernel_rfl) (by kernel_rfl) (au _ _).drew ?_ ?_
 ·intro i o hi ho a X dn val hK hd hdn hG;have hst:∀{i:Nat} {v:Value} {X':World},(i=0∨i=1∨i=3∨i=4)→Below X.heap.size X X'→∀j,j<7→j≠i→dn j=true→PhL W5.heap.size (.slice (some ⟨gc,0,none⟩) 2 cap) j (val j) X'∧PsL i j v (val j)∧PsL j i (val j) v:=fun h hb j hj _ hdj=>⟨(hK.got j hj hdj).below hb,Xl h⟩;have hmk:=tZ X 2 (by omega);have hnew:Row nV (X.alloc (.cells ((List.replicate 2 0).map nV).toArray 3)) X.heap.size 3 [0,0]:=Row.new _ _ rfl;have hal:Below X.heap.size X (X.alloc (.cells ((List.replicate 2 0).map nV).toArray 3)):=(au _ _).alloc (ah _) _
  match i,hi,ho with
  | 0,_,ho=>
   obtain rfl:=dJ ho;have e0:a.eval (.tmp 4)= .slice (some ⟨gc,0,none⟩) 2 cap:=by show a.tmps.getD 4 undef=_;rw [hK.old 4 (by decide)];rfl
   exact aB (v:=a.eval (.tmp 4)) (w':=X) (by first | rfl | kernel_rfl) ⟨_,rfl,hG,e0,hst (by decide) (au _ _)⟩
  | 1,_,ho=>
   obtain rfl:=dJ ho
   have e0:a.eval (.tmp 22)= .slice (some ⟨gc,0,none⟩) 2 cap:=by
    show a.tmps.getD 22 undef=_;rw [hK.slot 0 (by decide) (hd 0 (by kernel_rfl)) 22 rfl];exact hK.got 0 (by decide) (hd 0 (by kernel_rfl))
   refine aB (v:= .int .i64 2) (w':=X) ?_ ⟨_,rfl,hG,rfl,hst (by decide) (au _ _)⟩;have e1:a.tmps[22]?.getD undef= .slice (some ⟨gc,0,none⟩) 2 cap:=by rw [← si];exact e0
   unfold execOp;go_simp
  | 2,_,ho=>
   obtain rfl:=dJ ho
   have e0:a.eval (.tmp 23)= .int .i64 2:=by
    show a.tmps.getD 23 undef=_;rw [hK.slot 1 (by decide) (hd 1 (by kernel_rfl)) 23 rfl];exact hK.got 1 (by decide) (hd 1 (by kernel_rfl))
   refine aB (v:= .slice (some ⟨X.heap.size,0,none⟩) 2 2) (w':=X.alloc (.cells ((List.replicate 2 0).map nV).toArray 3)) ?_ ⟨_,rfl,hG.alloc hG.size _,⟨X.heap.size,rfl,hG.size,hnew⟩,?_⟩
   ·unfold execOp;simp only [e0,dR]
    erw [hmk]
    rfl
   ·intro j hj _ hdj;refine ⟨(hK.got j hj hdj).below hal,?_,?_⟩
    all_goals
     intro hor;have hj5:j=5:=by simpa using hor
     subst hj5;obtain ⟨g,h1,_,h3⟩:=hK.got 5 hj hdj;rw [h1];intro e;injection e with e
     have:=h3.lt;have e2:X.heap.size=g∨g=X.heap.size:=by first | exact .inl e | exact .inr e
     omega
  | 3,_,ho=>
   obtain rfl:=dJ ho;have e0:a.eval (.tmp 4)= .slice (some ⟨gc,0,none⟩) 2 cap:=by show a.tmps.getD 4 undef=_;rw [hK.old 4 (by decide)];rfl
   exact aB (v:=a.eval (.tmp 4)) (w':=X) (by first | rfl | kernel_rfl) ⟨_,rfl,hG,e0,hst (by decide) (au _ _)⟩
  | 4,_,ho=>
   obtain rfl:=dJ ho
   have e0:a.eval (.tmp 25)= .slice (some ⟨gc,0,none⟩) 2 cap:=by
    show a.tmps.getD 25 undef=_;rw [hK.slot 3 (by decide) (hd 3 (by kernel_rfl)) 25 rfl];exact hK.got 3 (by decide) (hd 3 (by kernel_rfl))
   refine aB (v:= .int .i64 2) (w':=X) ?_ ⟨_,rfl,hG,rfl,hst (by decide) (au _ _)⟩;have e1:a.tmps[25]?.getD undef= .slice (some ⟨gc,0,none⟩) 2 cap:=by rw [← si];exact e0
   unfold execOp;go_simp
  | 5,_,ho=>
   obtain rfl:=dJ ho
   have e0:a.eval (.tmp 26)= .int .i64 2:=by
    show a.tmps.getD 26 undef=_;rw [hK.slot 4 (by decide) (hd 4 (by kernel_rfl)) 26 rfl];exact hK.got 4 (by decide) (hd 4 (by kernel_rfl))
   refine aB (v:= .slice (some ⟨X.heap.size,0,none⟩) 2 2) (w':=X.alloc (.cells ((List.replicate 2 0).map nV).toArray 3)) ?_ ⟨_,rfl,hG.alloc hG.size _,⟨X.heap.size,rfl,hG.size,hnew⟩,?_⟩
   ·unfold execOp;simp only [e0,dR]
    erw [hmk]
    rfl
   ·intro j hj _ hdj;refine ⟨(hK.got j hj hdj).below hal,?_,?_⟩
    all_goals
     intro hor;have hj2:j=2∨j=6:=by simpa using hor
     have:∃g,val j= .slice (some ⟨g,0,none⟩) 2 2∧W5.heap.size≤g∧Row nV X g 3 [0,0]:=by rcases hj2 with rfl | rfl<;>exact hK.got _ hj hdj
     obtain ⟨g,h1,_,h3⟩:=this;rw [h1];intro e;injection e with e
     have:=h3.lt;have e2:X.heap.size=g∨g=X.heap.size:=by first | exact .inl e | exact .inr e
     omega
  | 6,_,ho=>
   obtain rfl:=dJ ho
   have h24:a.eval (.tmp 24)=val 2:=by
    show a.tmps.getD 24 undef=_;rw [hK.slot 2 (by decide) (hd 2 (by kernel_rfl)) 24 rfl]
   refine aB (v:=a.eval (.tmp 24)) (w':=X) (by first | rfl | kernel_rfl) ⟨_,rfl,hG,?_,?_⟩
   ·rw [h24];exact hK.got 2 (by decide) (hd 2 (by kernel_rfl))
   ·intro j hj hj6 hdj;refine ⟨hK.got j hj hdj,fun e=> ?_,fun e=> ?_⟩
    ·have:j=5:=by simpa using e
     subst this;rw [h24];exact hK.two 2 5 (by decide) (by decide) (by decide) (hd 2 (by kernel_rfl)) hdj (.inr ⟨rfl, .inl rfl⟩)
    ·have:j=5:=by simpa using e
     subst this;rw [h24];exact hK.two 5 2 (by decide) (by decide) (by decide) hdj (hd 2 (by kernel_rfl)) (.inl ⟨rfl, .inl rfl⟩)
 intro vs X dn hvl rC O8 _ hG;obtain ⟨gd,h5,hgd,hDd⟩:=rC 5 (by decide);obtain ⟨gs,h6,hgs,hSt⟩:=rC 6 (by decide)
 have hne:gd≠gs:=by
  have h:=O8 5 6 (by decide) (by decide) (by decide) (.inl ⟨rfl, .inr rfl⟩);rw [h5,h6] at h;exact fun e=>h (by rw [e])
 obtain ⟨g2,h2,_,_⟩:=rC 2 (by decide);have h0:vs.getD 0 undef=_:=rC 0 (by decide);have h1:vs.getD 1 undef=_:=rC 1 (by decide);have h3:vs.getD 3 undef=_:=rC 3 (by decide);have h4:vs.getD 4 undef=_:=rC 4 (by decide)
 have hvs:vs=[.slice (some ⟨gc,0,none⟩) 2 cap, .int .i64 2, .slice (some ⟨g2,0,none⟩) 2 2, .slice (some ⟨gc,0,none⟩) 2 cap, .int .i64 2, .slice (some ⟨gd,0,none⟩) 2 2, .slice (some ⟨gs,0,none⟩) 2 2]:=by
  match vs,hvl with
  | [a0,a1,a2,a3,a4,a5,a6],_=>
   simp only [FN,EA] at h0 h1 h2 h3 h4 h5 h6;rw [h0,h1,h2,h3,h4,h5,h6]
 subst hvs;clear h0 h1 h2 h3 h4 h5 h6 rC O8 hvl;simp only [iy,zZ,Cy,yh,List.drop];have hI:Bc w c N gc cap gs gd [0,0] [0,0] X:=⟨hS5.up (aL Vn (by omega)) hG,nW.below' hG,Uh.below hG Uh.lt,hD5.below hG hD5.lt,hSt,hDd⟩
 have abd:N+2≤gs:=aL Mh hgs;have hgd2:N+2≤gd:=aL Mh hgd;clear hS5 nW Uh hD5 hG hSt hDd hgs hgd Hvs;go_wp2_with fail;refine uT 3 ?_;refine ak (n:=2) ?_;obtain ⟨n0,hn0,hh0⟩:=HC.out.no;obtain ⟨_,eK,_,hx⟩:=gG eH hI.o 0 (by simp);injection eK with eK
 injection eK with eK
 subst eK;replace hx:At oV X gc 0 (aJ c.non):=hx;have hZ:Row oV (X.alloc (.cells fV 65)) X.heap.size 65 [ow 0,ow 0,ow 0,ow 0]:=Row.new _ _ rfl
 go_wp2_with (first
  | ((with_reducible refine aU (f:=oV) (l:=aJ c.non) (C:=ax c.non) ay (.tmp 33) ?_ ?_ gc 0 ?_ hx rfl ?_);rfl;rfl;rfl)
  | ((with_reducible refine aK (f:=oV) (l:=[ow 0,ow 0,ow 0,ow 0]) (l':=aJ c.non) (t:=65) (C:=ax c.non) ay (.tmp 9) (.tmp 34) ?_ ?_ X.heap.size ?_ ?_ ?_ hZ ?_ bF ?_);rfl;rfl;rfl;rfl;rfl;rfl;(intro W02 hr2 hG2 hz2);(refine bN.back ?_)))
 have hB2:Below X.heap.size X W02:=((au _ _).alloc (ah _) _).grown hG2 (by simp) (fun k e=>by injection e with e;rw [← e];exact ah _);have hI2:=hI.below hB2;have hls:=hI.st.lt;have hld:=hI.dd.lt;obtain ⟨xr0,Hxr⟩:∃n,Hid (X.heap.size=n):=⟨_,af rfl⟩
 rw [Hxr.out] at hr2 hls hld ⊢;clear hx hZ hG2 hz2 hB2 hI Hxr;have cs:=fu hI2.st 0 (by decide);have fs:=hI2.st.frozen 0;have Pv:Bc w c N gc cap gs gd [2,0] [0,0] (W02.setCell ⟨gs,0,none⟩ (.int .i64 2)):=hI2.Kw Vn abd hne Zw 0 2;have cd:=fu Pv.dd 0 (by decide);have fd:=Pv.dd.frozen 0;have Fv:Bc w c N gc cap gs gd [2,0] [2,0] ((W02.setCell ⟨gs,0,none⟩ (.int .i64 2)).setCell ⟨gd,0,none⟩ (.int .i64 2)):=Pv.ad5 Vn hgd2 hne Zw 0 2;have hr4:=(hr2.grown (aI W02 gs 0 (.int .i64 2)) (fun e=>by injection e with e;omega)).grown (aI _ gd 0 (.int .i64 2)) (fun e=>by injection e with e;omega);clear hI2 Pv hr2;refine bN.out ?_;go_upto_region 10 with (fail);generalize ((W02.setCell ⟨gs,0,none⟩ (.int .i64 2)).setCell ⟨gd,0,none⟩ (.int .i64 2))=Y0 at Fv hr4 ⊢;clear cs fs cd fd hls hld;refine wp_region_held (S:=fun Y=>Below Y0.heap.size Y0 Y) rfl ?_;have hS:=(au Y0.heap.size Y0).drew;refine dY 0 41 (.agg (ax c)) hS ?_ rfl (aA (f:=oV) (l:=aJ c) ay (.tmp 1) rfl w.heap.size 0 rfl (fun W' h=>(Fv.below h).s.2.1.at) rfl rfl);refine dY 1 42 (.agg (ax c.non)) hS ?_ rfl (aA (f:=oV) (l:=aJ c.non) ay (.tmp 9) rfl xr0 0 rfl (fun W' h=>(hr4.below h hr4.lt).at) rfl rfl);refine wU 2 (fun K' hK=> ?_);refine cD 43 178 #[.agg (ax c.non)] ?_;refine (Cf Y0.drew c.non (HT.out.below (Fv.s.1.trans (hS.mono Fv.s.1.size)) iL.out)).mono ?_;rintro e Wa0 ⟨rfl,hBa⟩;rw [hn0];have jy:=hS.trans (hBa.mono hS.size);refine ⟨_,rfl,hK.out _ _ jy fun _=> ?_⟩;clear hK hBa hS;have hS:=jy;simp only [sA,sB,sC];have hw8:IntKind.u8.wrap (n0.toNat:Int)=(n0.toNat:Int):=by rw [G6];have:=n0.toNat_lt;omega
 refine dY 3 44 (.int .u8 (n0.toNat:Int)) hS ?_ rfl yg;refine wU 4 (fun K' hK=> ?_);refine cD 45 118 #[.agg (ax c), .int .u8 (n0.toNat:Int)] ?_;refine (TS Wa0 c n0).mono ?_;rintro e UF ⟨rfl,hBb⟩;rw [hh0];have hSb:=hS.trans (hBb.mono hS.size);refine ⟨_,rfl,hK.out _ _ hSb fun _=> ?_⟩;clear hK hBb hS;simp only [sA,sB,sC];refine wpAnyH_done (by kernel_rfl) ?_ _;have hI:=Fv.below hSb;clear Fv hr4 hSb jy hw8 hn0 hh0;go_wp2_with fail;refine ak (n:=1) ?_;obtain ⟨n1,hn1,hh1⟩:=HC.out.yes;obtain ⟨_,eK,_,hx⟩:=gG eH hI.o 1 (by simp);injection eK with eK
 injection eK with eK
 subst eK;replace hx:At oV UF gc 4 (aJ c):=hx;have hZ:Row oV (UF.alloc (.cells fV 65)) UF.heap.size 65 [ow 0,ow 0,ow 0,ow 0]:=Row.new _ _ rfl
 go_wp2_with (first
  | ((with_reducible refine aU (f:=oV) (l:=aJ c) (C:=ax c) ay (.tmp 33) ?_ ?_ gc 4 ?_ hx rfl ?_);rfl;rfl;rfl)
  | ((with_reducible refine aK (f:=oV) (l:=[ow 0,ow 0,ow 0,ow 0]) (l':=aJ c) (t:=65) (C:=ax c) ay (.tmp 9) (.tmp 34) ?_ ?_ UF.heap.size ?_ ?_ ?_ hZ ?_ bF ?_);rfl;rfl;rfl;rfl;rfl;rfl;(intro OU hr2 hG2 hz2);(refine bN.back ?_)))
 have hB2:Below UF.heap.size UF OU:=((au _ _).alloc (ah _) _).grown hG2 (by simp) (fun k e=>by injection e with e;rw [← e];exact ah _);have hI2:=hI.below hB2;have hls:=hI.st.lt;have hld:=hI.dd.lt;obtain ⟨xr1,Hxr⟩:∃n,Hid (UF.heap.size=n):=⟨_,af rfl⟩
 rw [Hxr.out] at hr2 hls hld ⊢;clear hx hZ hG2 hz2 hB2 hI Hxr;have cs:=fu hI2.st 1 (by decide);have fs:=hI2.st.frozen 1;have Pv:Bc w c N gc cap gs gd [2,2] [2,0] (OU.setCell ⟨gs,1,none⟩ (.int .i64 2)):=hI2.Kw Vn abd hne Zw 1 2;have cd:=fu Pv.dd 1 (by decide);have fd:=Pv.dd.frozen 1;have Fv:Bc w c N gc cap gs gd [2,2] [2,2] ((OU.setCell ⟨gs,1,none⟩ (.int .i64 2)).setCell ⟨gd,1,none⟩ (.int .i64 2)):=Pv.ad5 Vn hgd2 hne Zw 1 2;have hr4:=(hr2.grown (aI OU gs 1 (.int .i64 2)) (fun e=>by injection e with e;omega)).grown (aI _ gd 1 (.int .i64 2)) (fun e=>by injection e with e;omega);clear hI2 Pv hr2;refine bN.out ?_;go_upto_region 10 with (fail);generalize ((OU.setCell ⟨gs,1,none⟩ (.int .i64 2)).setCell ⟨gd,1,none⟩ (.int .i64 2))=Y1 at Fv hr4 ⊢;clear cs fs cd fd hls hld;refine wp_region_held (S:=fun Y=>Below Y1.heap.size Y1 Y) rfl ?_;have hS:=(au Y1.heap.size Y1).drew;refine dY 0 41 (.agg (ax c)) hS ?_ rfl (aA (f:=oV) (l:=aJ c) ay (.tmp 1) rfl w.heap.size 0 rfl (fun W' h=>(Fv.below h).s.2.1.at) rfl rfl);refine dY 1 42 (.agg (ax c)) hS ?_ rfl (aA (f:=oV) (l:=aJ c) ay (.tmp 9) rfl xr1 0 rfl (fun W' h=>(hr4.below h hr4.lt).at) rfl rfl);refine wU 2 (fun K' hK=> ?_);refine cD 43 178 #[.agg (ax c)] ?_;refine (Cf Y1.drew c (HT.out.below (Fv.s.1.trans (hS.mono Fv.s.1.size)) iL.out)).mono ?_;rintro e Wa1 ⟨rfl,hBa⟩;rw [hn1];have jy:=hS.trans (hBa.mono hS.size);refine ⟨_,rfl,hK.out _ _ jy fun _=> ?_⟩;clear hK hBa hS;have hS:=jy;simp only [sA,sB,sC];have hw8:IntKind.u8.wrap (n1.toNat:Int)=(n1.toNat:Int):=by rw [G6];have:=n1.toNat_lt;omega
 refine dY 3 44 (.int .u8 (n1.toNat:Int)) hS ?_ rfl yg;refine wU 4 (fun K' hK=> ?_);refine cD 45 118 #[.agg (ax c), .int .u8 (n1.toNat:Int)] ?_;refine (TS Wa1 c n1).mono ?_;rintro e Wb1 ⟨rfl,hBb⟩;rw [hh1];have hSb:=hS.trans (hBb.mono hS.size);refine ⟨_,rfl,hK.out _ _ hSb fun _=> ?_⟩;clear hK hBb hS;simp only [sA,sB,sC];refine wpAnyH_done (by kernel_rfl) ?_ _;have hI:=Fv.below hSb;clear Fv hr4 hSb jy hw8 hn1 hh1;have cs:=fu hI.st 1 (by decide);have fs:=hI.st.frozen 1;have hI6:Bc w c N gc cap gs gd [2,1] [2,2] (Wb1.setCell ⟨gs,1,none⟩ (.int .i64 1)):=hI.Kw Vn abd hne Zw 1 1;clear hI;have hI:=hI6;clear hI6;go_wp2_with fail;generalize (Wb1.setCell ⟨gs,1,none⟩ (.int .i64 1))=X2 at hI ⊢;clear cs fs;refine ak (n:=0) ?_;go_wp2_with fail;have hdl:=hI.dd.lt;refine (Tryz.slices_Clone_int gd 0 2 2 [2,2] X2 (by decide) (by decide) (fun j hj=> ?_)).mono ?_
 ·rw [nR,fu hI.dd j hj]
  match j,hj with
  | 0,_=>rfl
  | 1,_=>rfl
 rintro e Wc ⟨vd,rfl,ZP,_,jR⟩;replace ZP:Mem.Own nV Wc X2.heap.size 3 vd [2,2]:=ZP;obtain ⟨pd,kd,rfl⟩:=ZP.slice;have hdx:=hI.d.lt;replace hI:=hI.below jR;clear hdl jR;have hdl:=hI.d.lt;have hdc:Wc.cell? ⟨N+1,1,none⟩=some (.slice none 0 0):=by rw [hI.d.cell?];rfl
 have hdf:=hI.d.frozen 1;go_upto_region 14 with (fail);have Ar:=aI Wc (N+1) 1 (.slice (some ⟨Wc.heap.size,0,none⟩) 3 3);have hal:Below (Wc.setCell ⟨N+1,1,none⟩ (.slice (some ⟨Wc.heap.size,0,none⟩) 3 3)).heap.size (Wc.setCell ⟨N+1,1,none⟩ (.slice (some ⟨Wc.heap.size,0,none⟩) 3 3)) ((Wc.setCell ⟨N+1,1,none⟩ (.slice (some ⟨Wc.heap.size,0,none⟩) 3 3)).alloc (.cells #[.slice (some ⟨gs,0,none⟩) 2 2, .slice (some ⟨gd,0,none⟩) 2 2, .slice pd 2 kd] 92)):=(au _ _).alloc (ah _) _;have hd1:Row oV (Wc.setCell ⟨N+1,1,none⟩ (.slice (some ⟨Wc.heap.size,0,none⟩) 3 3)) (N+1) 79 (bL (some ⟨gc,0,none⟩) 2 cap (some ⟨Wc.heap.size,0,none⟩) 3 3 (some ⟨N,0,none⟩) 3 3):=hI.d.set 1 ⟨.slice (some ⟨Wc.heap.size,0,none⟩) 3 3,rfl⟩;have hd2:=hd1.below hal hd1.lt;have ho2:=(hI.o.grown Ar (fun g e e2=>by injection e2 with e2;have:=Zw g e;omega)).below' hal;have ha1:=hI.a.grown Ar (fun e=>by injection e with e;omega);have ha2:=ha1.below hal ha1.lt;have hs1:=hI.st.grown Ar (fun e=>by injection e with e;omega);have hs2:=hs1.below hal hs1.lt;have aaP:=hI.dd.grown Ar (fun e=>by injection e with e;omega);have Vy:=aaP.below hal aaP.lt
 have hn2:Row oV ((Wc.setCell ⟨N+1,1,none⟩ (.slice (some ⟨Wc.heap.size,0,none⟩) 3 3)).alloc (.cells #[.slice (some ⟨gs,0,none⟩) 2 2, .slice (some ⟨gd,0,none⟩) 2 2, .slice pd 2 kd] 92)) Wc.heap.size 92 (bL (some ⟨gs,0,none⟩) 2 2 (some ⟨gd,0,none⟩) 2 2 pd 2 kd):=by
  have h:=Row.new (f:=oV) (Wc.setCell ⟨N+1,1,none⟩ (.slice (some ⟨Wc.heap.size,0,none⟩) 3 3)) (t:=92) (l:=bL (some ⟨gs,0,none⟩) 2 2 (some ⟨gd,0,none⟩) 2 2 pd 2 kd) (.cells #[.slice (some ⟨gs,0,none⟩) 2 2, .slice (some ⟨gd,0,none⟩) 2 2, .slice pd 2 kd] 92) rfl
  rwa [show (Wc.setCell ⟨N+1,1,none⟩ (.slice (some ⟨Wc.heap.size,0,none⟩) 3 3)).heap.size=Wc.heap.size by simp] at h
 have hv2:=(ZP.kept Ar (fun g hg e=>by injection e with e;have:=(ZP.lt g hg).1;omega)).below' hal
 have hc1:Vi w (Wc.setCell ⟨N+1,1,none⟩ (.slice (some ⟨Wc.heap.size,0,none⟩) 3 3)) c:=
  ⟨hI.s.1.grown Ar hI.s.1.size (fun j e=>by injection e with e;omega),hI.s.2.1.grown Ar (fun e=>by injection e with e;omega),hI.s.2.2.1.grown Ar (fun e=>by injection e with e;omega),aL hI.s.2.2.2 Ar.size⟩
 have hc2:=hc1.up hc1.2.2.2 hal;generalize ((Wc.setCell ⟨N+1,1,none⟩ (.slice (some ⟨Wc.heap.size,0,none⟩) 3 3)).alloc (.cells #[.slice (some ⟨gs,0,none⟩) 2 2, .slice (some ⟨gd,0,none⟩) 2 2, .slice pd 2 kd] 92))=W9 at hd2 ho2 ha2 hs2 Vy hn2 hv2 hc2 ⊢;clear hal hd1 ha1 hs1 aaP hc1;clear hdc hdf Ar ZP hI;generalize Wc.heap.size=gn at hd2 hn2 ⊢
 have hDf:dA W9 (.agg #[.slice (some ⟨gc,0,none⟩) 2 cap, .slice (some ⟨gn,0,none⟩) 3 3, .slice (some ⟨N,0,none⟩) 3 3]) (dm c):=by
  refine ⟨_,_,_,rfl,ho2.rd eH, .inr ⟨gn,0,3,rfl,ah _,fun i hi=> ?_,hn2.lt⟩, .inr ⟨N,0,3,rfl,ah _,ha2.at,ha2.lt⟩⟩
  match i,hi with
  | 0,_=>exact ⟨.slice (some ⟨gs,0,none⟩) 2 2,by rw [hn2.cell?];rfl, .inr ⟨gs,0,2,rfl,ah _,hs2.at,hs2.lt⟩⟩
  | 1,_=>exact ⟨.slice (some ⟨gd,0,none⟩) 2 2,by rw [hn2.cell?];rfl, .inr ⟨gd,0,2,rfl,ah _,Vy.at,Vy.lt⟩⟩
  | 2,_=>exact ⟨.slice pd 2 kd,by rw [hn2.cell?];rfl,hv2.rd⟩
 have VK:=af (ab2 W9 _ (dm c) hDf HC.out.v (HT.out.below hc2.1 iL.out) (bO iL.out hc2.1.size));have hR9:=hc2.2.2.1;have G8:=hc2.1;have hL9:=hc2.2.2.2;clear ho2 ha2 hs2 Vy hn2 hv2 hDf hc2;have yC:=af (jO HC.out.v.toOk);obtain ⟨D,HD⟩:∃D,Hid ((bT (dm c)).canon=D):=⟨_,af rfl⟩
 have Ie:Hid D.Ok:=af (HD.out▸yC.out.canon.1);rw [HD.out] at VK;have HE:Hid (∀(w':World) v,fQ w' v (.ok D)→fQ w' v (.ok (bT (dm c)).canon)):=af (fun w' v h=>by rw [HD.out];exact h);go_wp2_with ((with_reducible refine aU (f:=oV) (l:=bL (some ⟨gc,0,none⟩) 2 cap (some ⟨gn,0,none⟩) 3 3 (some ⟨N,0,none⟩) 3 3) (C:= #[.slice (some ⟨gc,0,none⟩) 2 cap, .slice (some ⟨gn,0,none⟩) 3 3, .slice (some ⟨N,0,none⟩) 3 3]) bQ (.tmp 5) ?_ ?_ (N+1) 0 ?_ hd2.at ?_ ?_);rfl;rfl;rfl;rfl);refine VK.out.mono ?_;rintro e Wf ⟨v,rfl,⟨u,rfl,hu⟩,dV⟩;obtain ⟨q1,j1,q2,j2,q3,j3,rfl⟩:=hu.parts;have OO:=hR9.below dV (by omega);obtain ⟨n1,Hn1⟩:∃n,Hid (D.cls.length=n):=⟨_,af rfl⟩
 obtain ⟨n2,Hn2⟩:∃n,Hid (D.nx.length=n):=⟨_,af rfl⟩
 obtain ⟨n3,Hn3⟩:∃n,Hid (D.ac.length=n):=⟨_,af rfl⟩
 rw [Hn1.out,Hn2.out,Hn3.out] at hu ⊢;go_wp2_with ((with_reducible refine aK (f:=oV) (l:=[on,on,on]) (l':=bL q1 n1 j1 q2 n2 j2 q3 n3 j3) (t:=79) (C:= #[.slice q1 n1 j1, .slice q2 n2 j2, .slice q3 n3 j3]) bQ (.tmp 2) (.tmp 58) ?_ ?_ (w.heap.size+1) ?_ ?_ ?_ OO ?_ bF ?_);rfl;rfl;rfl;rfl;rfl;rfl;(intro WZ Fb vT XB));have hBZ:Below w.heap.size w WZ:=(G8.trans (dV.mono G8.size)).grown vT (aL G8.size dV.size) (fun k e=>by injection e with e;omega);refine fJ (v:= .tuple #[.agg #[.slice q1 n1 j1, .slice q2 n2 j2, .slice q3 n3 j3], .int .i64 0]) (bG (f:=oV) (l:=bL q1 n1 j1 q2 n2 j2 q3 n3 j3) (t:=3) rfl _ bQ (w.heap.size+1) 0 rfl Fb.at) rfl ?_;exact ⟨_,rfl,HE.out _ _ ⟨_,rfl,hu.avoid Ie.out OO vT⟩,hBZ⟩
end
end Go.Proofs.YtncnfncglacheaaGreatDoor
