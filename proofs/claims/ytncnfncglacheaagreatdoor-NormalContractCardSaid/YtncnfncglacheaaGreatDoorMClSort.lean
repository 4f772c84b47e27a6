/- Part of a proof. -/
import Derived.Test.YtncnfncglacheaaGreatDoorMShelf
import Derived.Test.YtncnfncglacheaaGreatDoorMCanP
set_option linter.all false
set_option maxRecDepth 100000
set_option maxHeartbeats 64000000
namespace Go.Proofs.YtncnfncglacheaaGreatDoor
section
open Go Go.RowKit Mem
section
variable {α:Type} {K:Nat} {enc:α→List OC} {w:World} {base:Nat} {e:TypeId} {l:List α}
variable {P:Program} {o:Oper} {a:Act} {Q:Exit→Act→World→Prop}
theorem D5 {K1:Act→World→Prop} {ty:TypeId} (T:bR P ty K) (hk:∀x,(enc x).length=K) (x y:Operand) (ho:o.op= .store ty x y) (g n c k off:Nat) (hoff:off=k * K) (hx:a.eval x= .pointer (some ⟨g,off,none⟩))
  (z:α) {C:Array Value} (hC:C=((enc z).map oV).toArray) (hy:a.eval y= .agg C) (h:aP K enc w base e (.slice (some ⟨g,0,none⟩) n c) l) (hkl:k<l.length)
  (hK:∀w',aP K enc w' base e (.slice (some ⟨g,0,none⟩) n c) (l.set k z)→w.grownBy w' (some g)→K1 (a.put o.dst undef) w'):o.wp P a w K1 Q:=by
 subst hC hoff;rcases h.2 with ⟨h0,_⟩ | ⟨g2,cap,cur,he,hbg,hc,hn,hm,hs,ht⟩
 ·cases h0
 ·injection he with he1 he2 GZ
  injection he1 with he1
  injection he1 with he1 _ _
  subst he1 he2 GZ
  have hsz:l.length * K≤cur.toList.length:=by
   rw [Gm (xs:=cur),hs];exact NY K hn
  obtain ⟨c1,c2⟩:=Fw hk l k hkl z cur.toList hsz ht
  have hkK:k * K+K≤l.length * K:=by
   have:=NY K (show k+1≤l.length by omega);rw [Ox,Un] at this;exact this
  have hrun:=run_storeCells_at P g (k * K) e ((enc z).map oV) 0 cur w hc (by rw [fe,hk];rw [Gm (xs:=cur)] at hsz;omega) (fun v hv=>by obtain ⟨y,_,rfl⟩:=uW.1 hv;exact y.2);simp only [yh,fe,hk] at hrun
  have hr:(storeVar ty ⟨g,k * K,none⟩ (.agg ((enc z).map oV).toArray)).run P w= .ok () (w.setRow g (cur.toList.take (k * K)++(enc z).map oV++cur.toList.drop (k * K+K)).toArray):=by
   simp [storeVar,Value.cells,dS,T.size,hk];simpa using hrun
  unfold Oper.wp execOp;simp only [ho,hx,hy,Instr.storeAt,Instr.sureAddr,dS,iE,fK,hr];refine hK _ ?_ (uL w g _);unfold aP;rw [qz];refine ⟨by rw [fe,ze enc _ hk,qz], .inr ⟨g,c,_,rfl,hbg,setRow_heap w g _ _ e (0,0) hc,hn,hm,?_,c1⟩⟩;rw [Ck,c2,Gm (xs:=cur),hs]
end
theorem zN (c:Cl): -1≤c.least∧c.least≤255:=by
 unfold Cl.least;cases h:jd c 256 with
 | nil=>simp
 | cons x l=>
  have:x∈jd c 256:=by rw [h];simp
  have:=aa1 c 256 x this;simp only;omega
theorem aeH (w:World) (a b:Cl) (hT:gV w) (htl:1<w.heap.size):
  Calls Tryz.prog 226 #[.agg (au a), .agg (au b)] w fun e w'=>e= .returned (.int .i64 (a.least - b.least))∧Below w.heap.size w w':=by
 have r0:Row oV (w.alloc (.cells (au a) 65)) w.heap.size 65 (aG a):=Row.new _ _ rfl;have s0:(w.alloc (.cells (au a) 65)).heap.size=w.heap.size+1:=bO _ _
 have r1:Row oV ((w.alloc (.cells (au a) 65)).alloc (.cells (au b) 65)) (w.heap.size+1) 65 (aG b):=by
  have h:=Row.new (f:=oV) (w.alloc (.cells (au a) 65)) (t:=65) (l:=aG b) (.cells (au b) 65) rfl
  rwa [s0] at h
 have r0':=r0.alloc (.cells (au b) 65);have b0:Below w.heap.size w ((w.alloc (.cells (au a) 65)).alloc (.cells (au b) 65)):=((ak _ _).alloc (af _) _).alloc (by rw [s0];omega) _;clear r0 s0;go_enter Tryz.func226,Tryz.ntmps226;go_upto_region 1 with (fail);generalize ((w.alloc (.cells (au a) 65)).alloc (.cells (au b) 65))=W at r0' r1 b0 ⊢;have hl0:=r0'.lt;have hl1:=r1.lt;refine aC (S:=fun X=>Below W.heap.size W X) 5 rfl (by kernel_rfl) (ak _ _).drew fun hS=> ?_;refine tk 0 5 (.agg (au a)) hS ?_ rfl (aA (f:=oV) (l:=aG a) ay (.tmp 2) rfl w.heap.size 0 rfl (fun W' h=>(r0'.below h hl0).at) rfl rfl);refine tk 2 7 (.agg (au b)) hS ?_ rfl (aA (f:=oV) (l:=aG b) ay (.tmp 3) rfl (w.heap.size+1) 0 rfl (fun W' h=>(r1.below h hl1).at) rfl rfl);refine iT 1 (fun K' hK=> ?_);refine cD 6 178 #[.agg (au a)] ?_;refine (Dz W.drew a ((hT.below b0 htl).below hS (bJ htl b0.size))).mono ?_;rintro e Wa ⟨rfl,hBa⟩;obtain ⟨al,XM⟩:∃n,Hid (a.least=n):=⟨_,Lib.hid rfl⟩
 obtain ⟨bl,G5⟩:∃n,Hid (b.least=n):=⟨_,Lib.hid rfl⟩
 have ha1:=zN a;have hb1:=zN b;rw [XM.out] at ha1 ⊢;rw [G5.out] at hb1;have jg:=hS.trans (hBa.mono hS.size);refine ⟨_,rfl,hK.out _ _ jg fun _=> ?_⟩;clear hK hBa hS;have hS:=jg;simp only [sA,sB,sC];refine iT 3 (fun K' hK=> ?_);refine cD 8 178 #[.agg (au b)] ?_;refine (Dz Wa b ((hT.below b0 htl).below hS (bJ htl b0.size))).mono ?_;rintro e Wb ⟨rfl,hBb⟩;rw [G5.out];have hSb:=hS.trans (hBb.mono hS.size);refine ⟨_,rfl,hK.out _ _ hSb fun _=> ?_⟩;clear hK hBb hS jg;have hS:=hSb;simp only [sA,sB,sC];refine tk 4 9 (.int .i64 (al - bl)) hS ?_ rfl (yo fun w=>by go_simp;rw [qcW];omega);refine aL (by kernel_rfl) ?_;simp only [List.drop];go_wp2_with fail;go_ret;exact ⟨by rw [XM.out,G5.out];rfl,b0.trans (hSb.mono b0.size)⟩
theorem yO {w:World} {base g cap:Nat} {a b:Cl} (h:aP 4 aG w base 65 (.slice (some ⟨g,0,none⟩) 2 cap) [a,b]):At oV w g 0 (aG a)∧At oV w g 4 (aG b)∧base≤g∧g<w.heap.size:=by
 obtain ⟨g1,e1,h1,h2⟩:=gp (p:=some ⟨g,0,none⟩) (c:=cap) (l:=[a,b]) dX h 0 (by simp);obtain ⟨g2,e2,_,h3⟩:=gp (p:=some ⟨g,0,none⟩) (c:=cap) (l:=[a,b]) dX h 1 (by simp);injection e1 with e1
 injection e1 with e1
 injection e2 with e2
 injection e2 with e2
 subst e1;subst e2;refine ⟨?_,?_,(h.lt g rfl).1,h1⟩
 ·simpa using h2
 ·simpa using h3
def mg (g cap:Nat) (a b:Cl):List Value:=
 [.slice (some ⟨g,0,none⟩) 2 cap, .int .i64 1, .slice (some ⟨g,0,none⟩) 2 cap, .int .i64 1, .int .i64 0, .slice (some ⟨g,0,none⟩) 2 cap, .int .i64 1, .int .i64 0, .pointer (some ⟨g,0,none⟩), .agg (au a), .slice (some ⟨g,0,none⟩) 2 cap, .int .i64 1, .pointer (some ⟨g,4,none⟩), .agg (au b), .pointer (some ⟨g,4,none⟩)]
theorem Qh (w:World) (base g cap:Nat) (a b:Cl) (ho:aP 4 aG w base 65 (.slice (some ⟨g,0,none⟩) 2 cap) [a,b]) (hlt:b.least<a.least) (hT:gV w) (htl:1<w.heap.size):
  Calls Tryz.prog 265 #[.slice (some ⟨g,0,none⟩) 2 cap, .int .i64 0, .int .i64 2, .func (.func 226) #[] #[]] w fun e w'=>e= .returned (.tuple #[])∧aP 4 aG w' base 65 (.slice (some ⟨g,0,none⟩) 2 cap) [b,a]∧w.grownBy w' (some g):=by
 have HO:=Lib.hid ho;have HL:=Lib.hid hlt;have HT:=Lib.hid hT;have iy:=Lib.hid htl;clear ho hlt hT htl;go_enter Tryz.func265,Tryz.ntmps265;go_wp2_with fail;refine wp_loop_rounds 2 ?_;refine aj (n:=1) ?_;go_wp2_with fail;refine wp_loop_rounds 2 ?_;refine aj (n:=1) ?_
 have hW:∀X,Below w.heap.size w X→At oV X g 0 (aG a)∧At oV X g 4 (aG b):=fun X h=>by
  obtain ⟨h1,h2,_,h4⟩:=yO HO.out;exact ⟨h1.below h h4,h2.below h h4⟩
 go_upto_region 4 with (fail);refine aC (S:=fun X=>Below w.heap.size w X) 16 rfl (by kernel_rfl) (ak _ _).drew fun hS=> ?_;refine tk 0 18 (.int .i64 1) hS ?_;refine tk 1 19 (.int .i64 0) hS ?_;refine tk 2 20 (.bool true) hS ?_;refine tk 3 21 (.bool true) hS ?_;refine tk 4 22 (.func (.func 226) #[] #[]) hS ?_;refine tk 5 23 (.slice (some ⟨g,0,none⟩) 2 cap) hS ?_;refine tk 6 24 (.int .i64 1) hS ?_;refine tk 7 25 (.pointer (some ⟨g,4,none⟩)) hS ?_;refine tk 8 26 (.agg (au b)) hS ?_ rfl (aA (f:=oV) (l:=aG b) ay (.tmp 25) rfl g 4 rfl (fun W' h=>(hW W' h).2) rfl rfl);refine tk 9 27 (.slice (some ⟨g,0,none⟩) 2 cap) hS ?_;refine tk 10 28 (.int .i64 1) hS ?_;refine tk 11 29 (.int .i64 0) hS ?_;refine tk 12 30 (.pointer (some ⟨g,0,none⟩)) hS ?_;refine tk 13 31 (.agg (au a)) hS ?_ rfl (aA (f:=oV) (l:=aG a) ay (.tmp 30) rfl g 0 rfl (fun W' h=>(hW W' h).1) rfl rfl);refine iT 14 (fun K' hK=> ?_);refine cD 32 226 #[.agg (au b), .agg (au a)] ?_;refine (aeH w.drew b a (HT.out.below hS iy.out) iy.out).mono ?_;rintro e Wa ⟨rfl,hBa⟩;obtain ⟨df,Hdf⟩:∃n,Hid (b.least - a.least=n):=⟨_,Lib.hid rfl⟩
 have hneg:df<0:=by rw [← Hdf.out];have:=HL.out;omega
 rw [Hdf.out];have jg:=hS.trans (hBa.mono hS.size);refine ⟨_,rfl,hK.out _ _ jg fun _=> ?_⟩;clear hK hBa hS;have hS:=jg;simp only [sA,sB,sC];refine tk 15 33 (.bool true) hS ?_ rfl yg;refine aL (by kernel_rfl) ?_;simp only [List.drop];have hgW:Below w.heap.size w Wa:=jg;have Y6:=Lib.hid (HO.out.below hgW (fun k e=>(HO.out.lt k e).2));obtain ⟨_,_,hbg,hgl⟩:=yO HO.out;clear hS jg hW;obtain ⟨sw,Hsw⟩:∃l:List Value,Hid (l=mg g cap a b):=⟨_,Lib.hid rfl⟩
 go_upto_region 6 with (fail);refine oG 16 [some 37,some 38,some 39,some 40,some 41,some 42,some 43,some 44,some 45,some 46,some 47,some 48,some 49,some 50,some 51,none] (fun dn X=>(dn 15=false→aP 4 aG X base 65 (.slice (some ⟨g,0,none⟩) 2 cap) [a,b])∧(dn 15=true→aP 4 aG X base 65 (.slice (some ⟨g,0,none⟩) 2 cap) [a,a])∧Wa.grownBy X (some g)) (fun i v _=>i=15∨v=(mg g cap a b).getD i undef) (fun _ _ _ _=>True) rfl (by kernel_rfl) (by kernel_rfl) ⟨fun _=>Y6.out,(fun e=>by cases e),⟨rfl,rfl,rfl,af _,fun _ _ _=>rfl⟩⟩ ?_ ?_
 ·intro i o hi ho2 ac X dn val hK hd hdn hG;have hst:∀{i:Nat},i≠15→(((if 15=i then true else dn 15)=false→aP 4 aG X base 65 (.slice (some ⟨g,0,none⟩) 2 cap) [a,b])∧((if 15=i then true else dn 15)=true→aP 4 aG X base 65 (.slice (some ⟨g,0,none⟩) 2 cap) [a,a])∧Wa.grownBy X (some g)):=fun h=>by rw [if_neg (fun e=>h e.symm)];exact hG
  have hj:∀j,j<16→j≠i→dn j=true→(j=15∨val j=(mg g cap a b).getD j undef)∧True∧True:=fun j hj _ hdj=>⟨hK.got j hj hdj,trivial,trivial⟩
  match i,hi,ho2 with
  | _+16,h,_=>exact absurd h (by omega)
  | 0,_,ho2=>
   obtain rfl:=eG ho2;have e0:ac.eval (.tmp 0)= .slice (some ⟨g,0,none⟩) 2 cap:=by show ac.tmps.getD 0 undef=_;rw [hK.old 0 (by decide)];rfl
   refine aO (v:= .slice (some ⟨g,0,none⟩) 2 cap) (w':=X) ?_ ⟨_,rfl,hst (by decide), .inr rfl,hj⟩;unfold execOp;simp only [e0];go_simp
  | 1,_,ho2=>
   obtain rfl:=eG ho2;have e9:ac.eval (.tmp 9)= .int .i64 1:=by show ac.tmps.getD 9 undef=_;rw [hK.old 9 (by decide)];rfl
   refine aO (v:= .int .i64 1) (w':=X) ?_ ⟨_,rfl,hst (by decide), .inr rfl,hj⟩;unfold execOp;simp only [e9];go_simp
  | 2,_,ho2=>
   obtain rfl:=eG ho2;have e0:ac.eval (.tmp 0)= .slice (some ⟨g,0,none⟩) 2 cap:=by show ac.tmps.getD 0 undef=_;rw [hK.old 0 (by decide)];rfl
   refine aO (v:= .slice (some ⟨g,0,none⟩) 2 cap) (w':=X) ?_ ⟨_,rfl,hst (by decide), .inr rfl,hj⟩;unfold execOp;simp only [e0];go_simp
  | 3,_,ho2=>
   obtain rfl:=eG ho2;have e9:ac.eval (.tmp 9)= .int .i64 1:=by show ac.tmps.getD 9 undef=_;rw [hK.old 9 (by decide)];rfl
   refine aO (v:= .int .i64 1) (w':=X) ?_ ⟨_,rfl,hst (by decide), .inr rfl,hj⟩;unfold execOp;simp only [e9];go_simp
  | 4,_,ho2=>
   obtain rfl:=eG ho2
   have e40:ac.eval (.tmp 40)=(mg g cap a b).getD 3 undef:=by
    show ac.tmps.getD 40 undef=_;rw [hK.slot 3 (by decide) (hd 3 (by kernel_rfl)) 40 rfl];rcases hK.got 3 (by decide) (hd 3 (by kernel_rfl)) with h | h
    ·cases h
    ·exact h
   have e40:ac.eval (.tmp 40)=_:=e40;simp only [mg,Ey,Fh] at e40;refine aO (v:= .int .i64 0) (w':=X) ?_ ⟨_,rfl,hst (by decide), .inr rfl,hj⟩;unfold execOp;simp only [e40];go_simp
   first | done | rfl | decide
  | 5,_,ho2=>
   obtain rfl:=eG ho2;have e0:ac.eval (.tmp 0)= .slice (some ⟨g,0,none⟩) 2 cap:=by show ac.tmps.getD 0 undef=_;rw [hK.old 0 (by decide)];rfl
   refine aO (v:= .slice (some ⟨g,0,none⟩) 2 cap) (w':=X) ?_ ⟨_,rfl,hst (by decide), .inr rfl,hj⟩;unfold execOp;simp only [e0];go_simp
  | 6,_,ho2=>
   obtain rfl:=eG ho2;have e9:ac.eval (.tmp 9)= .int .i64 1:=by show ac.tmps.getD 9 undef=_;rw [hK.old 9 (by decide)];rfl
   refine aO (v:= .int .i64 1) (w':=X) ?_ ⟨_,rfl,hst (by decide), .inr rfl,hj⟩;unfold execOp;simp only [e9];go_simp
  | 7,_,ho2=>
   obtain rfl:=eG ho2
   have e43:ac.eval (.tmp 43)=(mg g cap a b).getD 6 undef:=by
    show ac.tmps.getD 43 undef=_;rw [hK.slot 6 (by decide) (hd 6 (by kernel_rfl)) 43 rfl];rcases hK.got 6 (by decide) (hd 6 (by kernel_rfl)) with h | h
    ·cases h
    ·exact h
   have e43:ac.eval (.tmp 43)=_:=e43;simp only [mg,Ey,Fh] at e43;refine aO (v:= .int .i64 0) (w':=X) ?_ ⟨_,rfl,hst (by decide), .inr rfl,hj⟩;unfold execOp;simp only [e43];go_simp
   first | done | rfl | decide
  | 8,_,ho2=>
   obtain rfl:=eG ho2
   have e42:ac.eval (.tmp 42)=(mg g cap a b).getD 5 undef:=by
    show ac.tmps.getD 42 undef=_;rw [hK.slot 5 (by decide) (hd 5 (by kernel_rfl)) 42 rfl];rcases hK.got 5 (by decide) (hd 5 (by kernel_rfl)) with h | h
    ·cases h
    ·exact h
   have e42:ac.eval (.tmp 42)=_:=e42;simp only [mg,Ey,Fh] at e42
   have e44:ac.eval (.tmp 44)=(mg g cap a b).getD 7 undef:=by
    show ac.tmps.getD 44 undef=_;rw [hK.slot 7 (by decide) (hd 7 (by kernel_rfl)) 44 rfl];rcases hK.got 7 (by decide) (hd 7 (by kernel_rfl)) with h | h
    ·cases h
    ·exact h
   have e44:ac.eval (.tmp 44)=_:=e44;simp only [mg,Ey,Fh] at e44;refine aO (v:= .pointer (some ⟨g,0,none⟩)) (w':=X) ?_ ⟨_,rfl,hst (by decide), .inr rfl,hj⟩;unfold execOp;simp only [e42,e44];go_simp
  | 9,_,ho2=>
   obtain rfl:=eG ho2
   have e45:ac.eval (.tmp 45)=(mg g cap a b).getD 8 undef:=by
    show ac.tmps.getD 45 undef=_;rw [hK.slot 8 (by decide) (hd 8 (by kernel_rfl)) 45 rfl];rcases hK.got 8 (by decide) (hd 8 (by kernel_rfl)) with h | h
    ·cases h
    ·exact h
   have e45:ac.eval (.tmp 45)=_:=e45;simp only [mg,Ey,Fh] at e45
   have Uf:dn 15=false:=by
    cases h:dn 15 with
    | false=>rfl
    | true=>
     have:=hK.clo 15 _ (by decide) rfl h 9 (by kernel_rfl);rw [hdn] at this;cases this
   have hAt:=(yO (hG.1 Uf)).1;exact rC (f:=oV) (lv:=aG a) ay (.tmp 45) rfl g 0 e45 hAt rfl ⟨_,rfl,hst (by decide), .inr rfl,hj⟩
  | 10,_,ho2=>
   obtain rfl:=eG ho2;have e0:ac.eval (.tmp 0)= .slice (some ⟨g,0,none⟩) 2 cap:=by show ac.tmps.getD 0 undef=_;rw [hK.old 0 (by decide)];rfl
   refine aO (v:= .slice (some ⟨g,0,none⟩) 2 cap) (w':=X) ?_ ⟨_,rfl,hst (by decide), .inr rfl,hj⟩;unfold execOp;simp only [e0];go_simp
  | 11,_,ho2=>
   obtain rfl:=eG ho2;have e9:ac.eval (.tmp 9)= .int .i64 1:=by show ac.tmps.getD 9 undef=_;rw [hK.old 9 (by decide)];rfl
   refine aO (v:= .int .i64 1) (w':=X) ?_ ⟨_,rfl,hst (by decide), .inr rfl,hj⟩;unfold execOp;simp only [e9];go_simp
  | 12,_,ho2=>
   obtain rfl:=eG ho2
   have e47:ac.eval (.tmp 47)=(mg g cap a b).getD 10 undef:=by
    show ac.tmps.getD 47 undef=_;rw [hK.slot 10 (by decide) (hd 10 (by kernel_rfl)) 47 rfl];rcases hK.got 10 (by decide) (hd 10 (by kernel_rfl)) with h | h
    ·cases h
    ·exact h
   have e47:ac.eval (.tmp 47)=_:=e47;simp only [mg,Ey,Fh] at e47
   have e48:ac.eval (.tmp 48)=(mg g cap a b).getD 11 undef:=by
    show ac.tmps.getD 48 undef=_;rw [hK.slot 11 (by decide) (hd 11 (by kernel_rfl)) 48 rfl];rcases hK.got 11 (by decide) (hd 11 (by kernel_rfl)) with h | h
    ·cases h
    ·exact h
   have e48:ac.eval (.tmp 48)=_:=e48;simp only [mg,Ey,Fh] at e48;refine aO (v:= .pointer (some ⟨g,4,none⟩)) (w':=X) ?_ ⟨_,rfl,hst (by decide), .inr rfl,hj⟩;unfold execOp;simp only [e47,e48];go_simp
  | 13,_,ho2=>
   obtain rfl:=eG ho2
   have e49:ac.eval (.tmp 49)=(mg g cap a b).getD 12 undef:=by
    show ac.tmps.getD 49 undef=_;rw [hK.slot 12 (by decide) (hd 12 (by kernel_rfl)) 49 rfl];rcases hK.got 12 (by decide) (hd 12 (by kernel_rfl)) with h | h
    ·cases h
    ·exact h
   have e49:ac.eval (.tmp 49)=_:=e49;simp only [mg,Ey,Fh] at e49
   have Uf:dn 15=false:=by
    cases h:dn 15 with
    | false=>rfl
    | true=>
     have:=hK.clo 15 _ (by decide) rfl h 13 (by kernel_rfl);rw [hdn] at this;cases this
   have hAt:=(yO (hG.1 Uf)).2.1;exact rC (f:=oV) (lv:=aG b) ay (.tmp 49) rfl g 4 e49 hAt rfl ⟨_,rfl,hst (by decide), .inr rfl,hj⟩
  | 14,_,ho2=>
   obtain rfl:=eG ho2
   have e37:ac.eval (.tmp 37)=(mg g cap a b).getD 0 undef:=by
    show ac.tmps.getD 37 undef=_;rw [hK.slot 0 (by decide) (hd 0 (by kernel_rfl)) 37 rfl];rcases hK.got 0 (by decide) (hd 0 (by kernel_rfl)) with h | h
    ·cases h
    ·exact h
   have e37:ac.eval (.tmp 37)=_:=e37;simp only [mg,Ey,Fh] at e37
   have e38:ac.eval (.tmp 38)=(mg g cap a b).getD 1 undef:=by
    show ac.tmps.getD 38 undef=_;rw [hK.slot 1 (by decide) (hd 1 (by kernel_rfl)) 38 rfl];rcases hK.got 1 (by decide) (hd 1 (by kernel_rfl)) with h | h
    ·cases h
    ·exact h
   have e38:ac.eval (.tmp 38)=_:=e38;simp only [mg,Ey,Fh] at e38;refine aO (v:= .pointer (some ⟨g,4,none⟩)) (w':=X) ?_ ⟨_,rfl,hst (by decide), .inr rfl,hj⟩;unfold execOp;simp only [e37,e38];go_simp
  | 15,_,ho2=>
   obtain rfl:=eG ho2
   have e51:ac.eval (.tmp 51)=(mg g cap a b).getD 14 undef:=by
    show ac.tmps.getD 51 undef=_;rw [hK.slot 14 (by decide) (hd 14 (by kernel_rfl)) 51 rfl];rcases hK.got 14 (by decide) (hd 14 (by kernel_rfl)) with h | h
    ·cases h
    ·exact h
   have e51:ac.eval (.tmp 51)=_:=e51;simp only [mg,Ey,Fh] at e51
   have e46:ac.eval (.tmp 46)=(mg g cap a b).getD 9 undef:=by
    show ac.tmps.getD 46 undef=_;rw [hK.slot 9 (by decide) (hd 9 (by kernel_rfl)) 46 rfl];rcases hK.got 9 (by decide) (hd 9 (by kernel_rfl)) with h | h
    ·cases h
    ·exact h
   have e46:ac.eval (.tmp 46)=_:=e46;simp only [mg,Ey,Fh] at e46;refine D5 (K:=4) (enc:=aG) ay dX (.tmp 51) (.tmp 46) rfl g 2 cap 1 4 rfl e51 a rfl e46 (hG.1 hdn) (by simp) ?_;intro X' hO' hG';refine ⟨undef,rfl,⟨fun h=> ?_,fun _=>hO',?_⟩, .inl rfl,hj⟩
   ·simp at h
   ·exact ⟨hG'.os.trans hG.2.2.os,hG'.tape.trans hG.2.2.tape,hG'.output.trans hG.2.2.output,aJ hG.2.2.size hG'.size,fun k hk hn=>(hG'.block k (bJ hk hG.2.2.size) hn).trans (hG.2.2.block k hk hn)⟩
 intro vs X dn hvl vP _ hdn hG;have hO2:=hG.2.1 (hdn 15 (by decide))
 have hv:∀i,i<15→vs.getD i undef=(mg g cap a b).getD i undef:=fun i hi=>by
  rcases vP i (by omega) with h | h
  ·omega
  ·exact h
 have hvs:vs=mg g cap a b++[vs.getD 15 undef]:=by
  apply List.ext_getElem
  ·rw [hvl];rfl
  ·intro i h1 h2;have hi:i<16:=by rw [hvl] at h1;exact h1
   by_cases Uf:i<15
   ·have h3:=hv i Uf;rw [dJ,bK h1,rY] at h3;rw [h3,JB (by exact Uf),dJ,bK (by exact Uf)];rfl
   ·obtain rfl:i=15:=by omega
    rw [qcd (by exact af _)];rw [List.getElem_singleton,dJ,bK h1];rfl
 generalize vs.getD 15 undef=v15 at hvs;subst hvs;clear hv vP hvl hdn;simp only [mg,Uu,Lc,gQ,Ae,El,xY,List.drop];have hgr:=hG.2.2;clear hG;go_step;go_step;go_step;refine jh (C:=au b) (enc:=aG) ay dX (.tmp 52) (.tmp 50) rfl rfl g 2 cap 0 0 rfl rfl b rfl rfl hO2 (by simp) ?_;intro W5 nE jk;have yD:aP 4 aG W5 base 65 (.slice (some ⟨g,0,none⟩) 2 cap) [b,a]:=nE
 have ND:w.grownBy W5 (some g):=by
  have h1:=Mem.aY hgW (some g);exact (h1.trans hgr).trans jk
 clear hO2 nE jk hgr Y6;go_wp2_with fail;refine aj (n:=0) ?_;have hsz5:g<W5.heap.size:=(yD.lt g rfl).2;clear Hdf hneg hgW;go_upto_region 4 with (fail);refine aC (S:=fun X=>Below W5.heap.size W5 X) 16 rfl (by kernel_rfl) (ak _ _).drew fun hS=> ?_;refine tk 0 18 (.int .i64 0) hS ?_;refine tk 1 19 (.int .i64 0) hS ?_;refine tk 2 20 (.bool false) hS ?_;refine tk 3 21 (.bool false) hS ?_;refine uY 4 22 undef hS ?_;refine uY 5 23 undef hS ?_;refine uY 6 24 undef hS ?_;refine uY 7 25 undef hS ?_;refine uY 8 26 undef hS ?_;refine uY 9 27 undef hS ?_;refine uY 10 28 undef hS ?_;refine uY 11 29 undef hS ?_;refine uY 12 30 undef hS ?_;refine uY 13 31 undef hS ?_;refine uY 14 32 undef hS ?_;refine uY 15 33 undef hS ?_;refine aL (by kernel_rfl) ?_;simp only [List.drop];go_wp2_with fail;refine aj (n:=0) ?_;go_wp2_with fail;go_end0;have hB:=(ak W5.heap.size W5).drew;exact ⟨rfl,yD.below hB (fun k e=>(yD.lt k e).2),ND.trans (Mem.aY hB (some g))⟩
end
section
open Go Go.RowKit Mem
theorem agv (w:World) (base g cap:Nat) (a b:Cl) (lim:Int) (ho:aP 4 aG w base 65 (.slice (some ⟨g,0,none⟩) 2 cap) [a,b]) (hlt:b.least<a.least) (hT:gV w) (htl:1<w.heap.size):
  Calls Tryz.prog 257 #[.slice (some ⟨g,0,none⟩) 2 cap, .int .i64 0, .int .i64 2, .int .i64 lim, .func (.func 226) #[] #[]] w fun e w'=>e= .returned (.tuple #[])∧aP 4 aG w' base 65 (.slice (some ⟨g,0,none⟩) 2 cap) [b,a]∧w.grownBy w' (some g):=by
 have HI0:=Lib.hid (Qh w base g cap a b ho hlt hT htl);clear ho hlt hT htl;go_enter Tryz.func257,Tryz.ntmps257;go_wp2_with fail;refine wp_loop_rounds 1 ?_;refine aj (n:=0) ?_;go_wp2_with fail;refine HI0.out.mono ?_;rintro e wI ⟨rfl,HI⟩;go_wp2_with fail;refine bodyPost_ret (results_none rfl _ _ _) rfl ?_;exact ⟨rfl,HI⟩
theorem aeL (w:World) (base g cap:Nat) (a b:Cl) (ho:aP 4 aG w base 65 (.slice (some ⟨g,0,none⟩) 2 cap) [a,b]) (hlt:b.least<a.least) (hT:gV w) (htl:1<w.heap.size):
  Calls Tryz.prog 225 #[.slice (some ⟨g,0,none⟩) 2 cap, .func (.func 226) #[] #[]] w fun e w'=>e= .returned (.tuple #[])∧aP 4 aG w' base 65 (.slice (some ⟨g,0,none⟩) 2 cap) [b,a]∧w.grownBy w' (some g):=by
 have hl:=Lib.hid fun X=>(Tryz.bits_Len 2 X (by decide) (by decide));have HI0:=Lib.hid fun lim=>agv w base g cap a b lim ho hlt hT htl;clear ho hlt hT htl;go_enter Tryz.func225,Tryz.ntmps225;go_wp2_with fail;refine (hl.out _).mono ?_;rintro e _ ⟨rfl,rfl⟩;go_wp2_with fail;refine (HI0.out _).mono ?_;rintro e wI ⟨rfl,HI⟩;go_wp2_with fail;go_end0;exact ⟨rfl,HI⟩
end
section
open Go Go.RowKit Mem
def fQ:Cl:=⟨18446744073709551615,18446744073709551615,18446744073709551615,18446744073709551615⟩
theorem Yk:Cl.zip (fun x _=> ~~~x) ⟨0,0,0,0⟩ ⟨0,0,0,0⟩=fQ:=by decide+kernel
theorem Qw (x:UInt64):18446744073709551615 &&& x=x:=by
 apply UInt64.eq_of_toBitVec_eq;simp only [UInt64.toBitVec_and];exact BitVec.allOnes_and
theorem Yp (x:Cl):Cl.zip (fun x y=>x &&& y) fQ x=x:=by
 unfold Cl.zip fQ;simp only [Qw]
theorem Qt (x:Cl):Cl.zip (fun x y=>x &&& ~~~y) fQ x=x.non:=by
 unfold Cl.zip fQ Cl.non;simp only [Qw]
theorem clZ:au ⟨0,0,0,0⟩= #[.int .u64 0, .int .u64 0, .int .u64 0, .int .u64 0]:=by kernel_rfl
section
variable {ops:Array Oper} {rest:List Oper} {o:Oper} {a:Act} {Q:Exit→Act→World→Prop} {w:World}
theorem Pv (x y:Operand) (t:TypeId) (cx cy:Cl) (hne:cx≠cy) (hgd:o.guard=none) (ho:o.op= .binOp .neq 65 x y t) (hx:a.eval x= .agg (au cx)) (hy:a.eval y= .agg (au cy))
  (hk:wpList Tryz.prog ops Q rest (a.put o.dst (.bool true)) w):wpList Tryz.prog ops Q (o::rest) a w:=by
 refine Kj hgd (fun W=> ?_) hk;unfold execOp;have hg:=run_eqGuard_agg (P:=Tryz.prog) W .neq 65 x y (au cx) (au cy) QD;simp only [ho,hx,hy,dS,hg,YL W cx cy hne,fK];rfl
end
theorem WC (w:World) (g n:Nat) (c:Cl) (hA:At oV w g 0 (aG c)) (hg:g<w.heap.size) (h0:c≠⟨0,0,0,0⟩) (h1:c.non≠⟨0,0,0,0⟩) (hlt:c.non.least<c.least) (hT:gV w) (htl:1<w.heap.size):
  Calls Tryz.prog 176 #[.slice (some ⟨g,0,none⟩) 1 n] w fun e w'=>∃p cap,e= .returned (.slice p 2 cap)∧aP 4 aG w' w.heap.size 65 (.slice p 2 cap) [c.non,c]∧Below w.heap.size w w':=by
 have HA:=Lib.hid hA;have H0:=Lib.hid h0;have H1:=Lib.hid h1;have HL:=Lib.hid hlt;have HT:=Lib.hid hT;have iy:=Lib.hid htl;clear hA h0 h1 hlt hT htl;go_enter Tryz.func176,Tryz.ntmps176;go_wp2_with fail;refine (aaC w ⟨0,0,0,0⟩).mono ?_;rw [Yk];rintro e w1 ⟨rfl,hB1⟩;go_wp2_with fail;refine wp_loop_rounds 2 ?_;have hr1:Row oV (w1.alloc (.cells (au fQ) 65)) w1.heap.size 65 (aG fQ):=Row.new _ _ rfl;have hb1:Below w.heap.size w (w1.alloc (.cells (au fQ) 65)):=hB1.alloc hB1.size _;have hz1:=hB1.size;have agO:w.heap.size≤w1.heap.size:=hB1.size;obtain ⟨W1,HW1⟩:∃W,Hid ((w1.alloc (.cells (au fQ) 65))=W):=⟨_,Lib.hid rfl⟩
 rw [HW1.out] at hr1 hb1;change Code.rounds _ _ _ _ _ (w1.alloc (.cells (au fQ) 65));rw [HW1.out];clear hz1 hB1 HW1;have hA1:=HA.out.below hb1 hg;have hZ:Row oV (W1.alloc (.cells fJ 65)) W1.heap.size 65 [ow 0,ow 0,ow 0,ow 0]:=Row.new _ _ rfl;refine aj (n:=1) ?_
 go_wp2_with (first
  | ((with_reducible refine zL hA1 ay rfl (C:=au c) ?_))
  | ((with_reducible refine zS (l':=aG c) hZ ay ?_);(intro W2 hr2 hG2 hz2);(refine bM.back ?_)))
 have hb2:Below w.heap.size w W2:=(hb1.alloc hb1.size _).grown hG2 (by have:=hb1.size;simp;omega) (fun k e=>by injection e with e;rw [← e];exact hb1.size);have aaf:=(hr1.alloc (.cells fJ 65)).grown hG2 (fun e=>by injection e with e;have:=hr1.lt;omega);have afi:W1.heap.size<W2.heap.size:=hr2.lt;clear hr1 hZ hA1 hG2 hz2;have hZ:Row oV (W2.alloc (.cells fJ 65)) W2.heap.size 65 [ow 0,ow 0,ow 0,ow 0]:=Row.new _ _ rfl;have ae6:=aaf.lt;refine bM.out ?_;go_wp2_with fail;refine wp_loop_rounds 2 ?_;refine aj (n:=1) ?_
 go_wp2_with (first
  | ((with_reducible refine zL aaf.at ay rfl (C:=au fQ) ?_))
  | ((with_reducible refine zS (l':=aG fQ) hZ ay ?_);(intro W3 hr3 hG3 hz3);(refine bM.back ?_)))
 have hb3:Below w.heap.size w W3:=(hb2.alloc hb2.size _).grown hG3 (by have:=hb2.size;simp;omega) (fun k e=>by injection e with e;rw [← e];exact hb2.size);have RV:=(hr2.alloc (.cells fJ 65)).grown hG3 (fun e=>by injection e with e;omega);have agH:W2.heap.size<W3.heap.size:=hr3.lt;clear hr2 aaf hZ hG3 hz3;refine bM.out ?_;go_upto_region 9 with (fail);refine wp_region_held (S:=fun X=>Below W3.heap.size W3 X) rfl ?_;have hS:=(ak W3.heap.size W3).drew;refine nD 0 26 (.agg (au fQ)) hS ?_ rfl (aA (f:=oV) (l:=aG fQ) ay (.tmp 8) rfl W2.heap.size 0 rfl (fun W' h=>(hr3.below h hr3.lt).at) rfl rfl);refine nD 1 27 (.agg (au c)) hS ?_ rfl (aA (f:=oV) (l:=aG c) ay (.tmp 5) rfl W1.heap.size 0 rfl (fun W' h=>(RV.below h RV.lt).at) rfl rfl);refine nD 3 29 (.agg (au fQ)) hS ?_ rfl (aA (f:=oV) (l:=aG fQ) ay (.tmp 8) rfl W2.heap.size 0 rfl (fun W' h=>(hr3.below h hr3.lt).at) rfl rfl);refine nD 4 30 (.agg (au c)) hS ?_ rfl (aA (f:=oV) (l:=aG c) ay (.tmp 5) rfl W1.heap.size 0 rfl (fun W' h=>(RV.below h RV.lt).at) rfl rfl);refine nD 7 33 (.int .i64 0) hS ?_;refine Ry 2 (fun K' hK=> ?_);refine cD 28 102 #[.agg (au fQ), .agg (au c)] ?_;refine (Qq W3.drew fQ c).mono ?_;rw [Yp];rintro e Wa ⟨rfl,hBa⟩;have jg:=hS.trans (hBa.mono hS.size);refine ⟨_,rfl,hK.out _ _ jg fun _=> ?_⟩;clear hK hBa hS;have hS:=jg;simp only [sA,sB,sC];refine Ry 5 (fun K' hK=> ?_);refine cD 31 224 #[.agg (au fQ), .agg (au c)] ?_;refine (aaw Wa fQ c).mono ?_;rw [Qt];rintro e Wb ⟨rfl,hBb⟩;have hSb:=hS.trans (hBb.mono hS.size);refine ⟨_,rfl,hK.out _ _ hSb fun _=> ?_⟩;clear hK hBb hS jg;have hS:=hSb;simp only [sA,sB,sC];refine nD 6 32 (.agg #[.int .u64 (X c.a), .int .u64 (X c.b), .int .u64 (X c.c), .int .u64 (X c.d), .int .u64 (X (~~~c.a)), .int .u64 (X (~~~c.b)), .int .u64 (X (~~~c.c)), .int .u64 (X (~~~c.d))]) hS ?_;refine wpAnyH_done (by kernel_rfl) ?_ _;have hb4:=hb3.trans (hSb.mono hb3.size);have KZ:=hSb.size;have hs3:=hb3.size;clear hS hSb hr3 RV afi ae6;go_wp2_with fail;refine wp_loop_rounds 3 ?_;refine aj (n:=2) ?_;have hZ:Row oV (Wb.alloc (.cells fJ 65)) Wb.heap.size 65 [ow 0,ow 0,ow 0,ow 0]:=Row.new _ _ rfl;have hC4:∀x:Cl,(au x).size=4:=fun x=>rfl;have hL4:=aJ hs3 KZ
 go_wp2_with (first
  | ((with_reducible refine J7 (u:= .agg (au c)) (.index 332 (.tmp 32) (.tmp 33)) ?_ ?_ ?_ ?_);rfl;rfl;(intro w;kernel_rfl))
  | ((with_reducible refine zS (l':=aG c) hZ ay ?_);(intro W5 Ld jk Ez);(refine bM.back ?_)))
 have hb5:Below w.heap.size w W5:=(hb4.alloc hb4.size _).grown jk (by have:=hb4.size;simp;omega) (fun k e=>by injection e with e;rw [← e];exact hb4.size);have aeV:=hb5.size;clear hZ jk Ez;refine bM.out ?_
 go_wp2_with (first
  | ((with_reducible refine zL Ld.at ay rfl (C:=au c) ?_))
  | ((with_reducible refine Pv (.tmp 36) (.tmp 37) 65 c ⟨0,0,0,0⟩ H0.out ?_ ?_ ?_ ?_ ?_);rfl;rfl;rfl;exact congrArg Value.agg clZ.symm)
  | (at_builtin;(with_reducible refine qM Sj (by decide) dX (.tmp 39) (.tmp 41) ?_ ?_ ?_ (aP.nil W5 w.heap.size 65) c _ ?_ _ ?_ ?_ ?_ ?_ [c] rfl ?_);rfl;rfl;rfl;rfl;rfl;(decide);(decide);(exact aeV);(intro p6 c6 W6 YJ gP di;refine bM.back ?_)))
 have hb6:Below w.heap.size w W6:=hb5.trans gP;clear Ld di gP hb5;have fO:=hb6.size;obtain ⟨g6,e6,_,_⟩:=gp dX YJ 0 (by simp);subst e6;have hZ:Row oV (W6.alloc (.cells fJ 65)) W6.heap.size 65 [ow 0,ow 0,ow 0,ow 0]:=Row.new _ _ rfl;refine bM.out ?_;go_wp2_with fail;refine aj (n:=1) ?_
 go_wp2_with (first
  | ((with_reducible refine J7 (u:= .agg (au c.non)) (.index 332 (.tmp 32) (.tmp 33)) ?_ ?_ ?_ ?_);rfl;rfl;(intro w;kernel_rfl))
  | ((with_reducible refine zS (l':=aG c.non) hZ ay ?_);(intro W7 hr7 gB vS);(refine bM.back ?_)))
 have hb7:Below w.heap.size w W7:=(hb6.alloc hb6.size _).grown gB (by have:=hb6.size;simp;omega) (fun k e=>by injection e with e;rw [← e];exact hb6.size);have Xb:aP 4 aG W7 w.heap.size 65 (.slice (some ⟨g6,0,none⟩) [c].length c6) [c]:=(YJ.grown (Us W6 (.cells fJ 65) none) (fun _ _=>by simp)).grown gB (fun k hk e=>by injection e with e;have:=(YJ.lt k hk).2;omega);have MK:=hb7.size;clear hZ gB vS YJ;refine bM.out ?_
 go_wp2_with (first
  | ((with_reducible refine zL hr7.at ay rfl (C:=au c.non) ?_))
  | ((with_reducible refine Pv (.tmp 36) (.tmp 37) 65 c.non ⟨0,0,0,0⟩ H1.out ?_ ?_ ?_ ?_ ?_);rfl;rfl;rfl;exact congrArg Value.agg clZ.symm)
  | (at_builtin;(with_reducible refine qM Sj (by decide) dX (.tmp 39) (.tmp 41) ?_ ?_ ?_ Xb c.non _ ?_ _ ?_ ?_ ?_ ?_ [c,c.non] rfl ?_);rfl;rfl;rfl;rfl;rfl;(simp);(simp);(exact MK);(intro p8 c8 W8 KU jf gW;refine bM.back ?_)))
 have hb8:Below w.heap.size w W8:=hb7.trans jf;have aed:1<W8.heap.size:=bJ iy.out hb8.size;have Y9:=HT.out.below hb8 iy.out;obtain ⟨g8,e8,_,_⟩:=gp dX KU 0 (by simp);subst e8;have HS:=Lib.hid (aeL W8 w.heap.size g8 c8 c c.non KU HL.out Y9 aed);have hg8:=(KU.lt g8 rfl).1;clear hr7 gW jf hb7 Xb KU aed Y9;refine bM.out ?_;go_wp2_with fail;refine aj (n:=0) ?_;go_wp2_with fail;refine aj (n:=0) ?_;go_wp2_with fail;refine aj (n:=0) ?_;go_wp2_with fail;refine HS.out.mono ?_;rintro e W9 ⟨rfl,Ro,dw⟩;go_wp2_with fail;go_ret;exact ⟨_,_,rfl,Ro,hb8.grown dw hb8.size (fun k e=>by injection e with e;rw [← e];exact hg8)⟩
end
section
open Go Go.RowKit Mem
def bZ (c:Cl):DF:=⟨[c.non,c],[[2,1],[2,2],[2,2]],[false,true,false]⟩
structure Cl.Let (c:Cl):Prop where
 size:c.size≠0
 h0:c≠⟨0,0,0,0⟩
 h1:c.non≠⟨0,0,0,0⟩
 lt:c.non.least<c.least
 v:(bZ c).V
 no:∃n:UInt8,c.non.least=(n.toNat:Int)∧c.has n=false
 yes:∃n:UInt8,c.least=(n.toNat:Int)∧c.has n=true
def Tv (w W:World) (c:Cl):Prop:=Below w.heap.size w W∧Row oV W w.heap.size 65 (aG c)∧Row oV W (w.heap.size+1) 79 [on,on,on]∧w.heap.size+2≤W.heap.size
theorem Tv.up {w W X:World} {c:Cl} (h:Tv w W c) {k:Nat} (hk:w.heap.size+2≤k) (hB:Below k W X):Tv w X c:=
 ⟨h.1.trans (hB.mono (by omega)),h.2.1.below hB (by omega),h.2.2.1.below hB (by omega),aJ h.2.2.2 hB.size⟩
structure AJ (w:World) (c:Cl) (N gc cap gs gd:Nat) (st dd:List Nat) (X:World):Prop where
 s:Tv w X c
 o:aP 4 aG X (w.heap.size+2) 65 (.slice (some ⟨gc,0,none⟩) 2 cap) [c.non,c]
 a:Row Value.bool X N 4 [false,true,false]
 d:Row oV X (N+1) 79 (bF (some ⟨gc,0,none⟩) 2 cap none 0 0 (some ⟨N,0,none⟩) 3 3)
 st:Row nV X gs 3 st
 dd:Row nV X gd 3 dd
theorem AJ.below {w X X':World} {c:Cl} {N gc cap gs gd:Nat} {st dd:List Nat} (h:AJ w c N gc cap gs gd st dd X) (hB:Below X.heap.size X X'):AJ w c N gc cap gs gd st dd X':=
 ⟨h.s.up h.s.2.2.2 hB,h.o.below' hB,h.a.below hB h.a.lt,h.d.below hB h.d.lt,h.st.below hB h.st.lt,h.dd.below hB h.dd.lt⟩
theorem AJ.IX {w X:World} {c:Cl} {N gc cap gs gd:Nat} {st dd:List Nat} (h:AJ w c N gc cap gs gd st dd X) (hN:w.heap.size+2≤N) (hs:N+2≤gs) (hne:gd≠gs) (hc:∀k,(Value.slice (some ⟨gc,0,none⟩) 2 cap).ownBlock=some k→k<N) (k v:Nat):AJ w c N gc cap gs gd (st.set k v) dd (X.setCell ⟨gs,k,none⟩ (.int .i64 (v:Int))):=by
 have hg:=aB X gs k (.int .i64 (v:Int));refine ⟨⟨h.s.1.grown hg h.s.1.size (fun j e=>by injection e with e;omega),h.s.2.1.grown hg (fun e=>by injection e with e;omega),h.s.2.2.1.grown hg (fun e=>by injection e with e;omega),aJ h.s.2.2.2 hg.size⟩,h.o.grown hg (fun g e e2=>by injection e2 with e2;have:=hc g e;omega),h.a.grown hg (fun e=>by injection e with e;omega),h.d.grown hg (fun e=>by injection e with e;omega),h.st.set k v,h.dd.grown hg (fun e=>by injection e with e;omega)⟩
theorem AJ.ade {w X:World} {c:Cl} {N gc cap gs gd:Nat} {st dd:List Nat} (h:AJ w c N gc cap gs gd st dd X) (hN:w.heap.size+2≤N) (hs:N+2≤gd) (hne:gd≠gs) (hc:∀k,(Value.slice (some ⟨gc,0,none⟩) 2 cap).ownBlock=some k→k<N) (k v:Nat):AJ w c N gc cap gs gd st (dd.set k v) (X.setCell ⟨gd,k,none⟩ (.int .i64 (v:Int))):=by
 have hg:=aB X gd k (.int .i64 (v:Int));refine ⟨⟨h.s.1.grown hg h.s.1.size (fun j e=>by injection e with e;omega),h.s.2.1.grown hg (fun e=>by injection e with e;omega),h.s.2.2.1.grown hg (fun e=>by injection e with e;omega),aJ h.s.2.2.2 hg.size⟩,h.o.grown hg (fun g e e2=>by injection e2 with e2;have:=hc g e;omega),h.a.grown hg (fun e=>by injection e with e;omega),h.d.grown hg (fun e=>by injection e with e;omega),h.st.grown hg (fun e=>by injection e with e;omega),h.dd.set k v⟩
def PhL (N:Nat) (vs:Value) (i:Nat) (v:Value) (X:World):Prop:=
 match i with
 | 0 | 3=>v=vs
 | 1 | 4=>v= .int .i64 2
 | _=>∃g,v= .slice (some ⟨g,0,none⟩) 2 2∧N≤g∧Row nV X g 3 [0,0]
def PsL (i j:Nat) (v u:Value):Prop:=(i=5∧(j=2∨j=6))∨(j=5∧(i=2∨i=6))→v.ownBlock≠u.ownBlock
theorem PhL.below {N:Nat} {vs v:Value} {X X':World}:∀{i:Nat},PhL N vs i v X→Below X.heap.size X X'→PhL N vs i v X'
 | 0,h,_=>h
 | 1,h,_=>h
 | 3,h,_=>h
 | 4,h,_=>h
 | 2,⟨g,h1,h2,h3⟩,hb=>⟨g,h1,h2,h3.below hb h3.lt⟩
 | _+5,⟨g,h1,h2,h3⟩,hb=>⟨g,h1,h2,h3.below hb h3.lt⟩
theorem Ym {i j:Nat} {v u:Value} (h:i=0∨i=1∨i=3∨i=4):PsL i j v u∧PsL j i u v:=⟨fun e=>by omega,fun e=>by omega⟩
theorem Ya (w:World) (c:Cl) (hc:c.Let) (hT:gV w) (htl:1<w.heap.size):
  Calls Tryz.prog 136 #[.agg (au c)] w fun e w'=>∃v,e= .returned v∧fF w' v (.ok (bP (bZ c)).canon)∧Below w.heap.size w w':=by
 have HC:=Lib.hid hc;have HT:=Lib.hid hT;have iy:=Lib.hid htl;have hsz:=hc.size;clear hc hT htl
 have hS:Tv w ((w.alloc (.cells (au c) 65)).alloc (.cells #[.slice none 0 0, .slice none 0 0, .slice none 0 0] 79)) c:=by
  have r0:Row oV (w.alloc (.cells (au c) 65)) w.heap.size 65 (aG c):=Row.new _ _ rfl;have s0:(w.alloc (.cells (au c) 65)).heap.size=w.heap.size+1:=bO _ _;refine ⟨((ak _ _).alloc (af _) _).alloc (by rw [s0];omega) _,r0.alloc _,?_,by rw [bO,s0];omega⟩;have h:=Row.new (f:=oV) (w.alloc (.cells (au c) 65)) (t:=79) (l:=[on,on,on]) (.cells #[.slice none 0 0, .slice none 0 0, .slice none 0 0] 79) rfl
  rwa [s0] at h
 go_enter Tryz.func136,Tryz.ntmps136;go_upto_region 1 with (fail);generalize ((w.alloc (.cells (au c) 65)).alloc (.cells #[.slice none 0 0, .slice none 0 0, .slice none 0 0] 79))=W at hS ⊢;have hr:=hS.2.1.at;go_wp2_with ((with_reducible refine aN (f:=oV) (l:=aG c) (C:=au c) ay (.tmp 1) ?_ ?_ w.heap.size 0 ?_ hr rfl ?_);rfl;rfl;rfl);clear hr;refine (Dt W c).mono ?_;rintro e W1 ⟨rfl,hB1⟩;obtain ⟨sz,Hsz⟩:∃n,Hid (c.size=n):=⟨_,Lib.hid rfl⟩
 rw [Hsz.out] at hsz ⊢;replace hS:=hS.up hS.2.2.2 hB1;clear hB1;have hr:=hS.2.1.at;go_wp2_with ((with_reducible refine aN (f:=oV) (l:=aG c) (C:=au c) ay (.tmp 1) ?_ ?_ w.heap.size 0 ?_ hr rfl ?_);rfl;rfl;rfl);clear hr;have hr2:Row oV (W1.alloc (.cells (au c) 65)) W1.heap.size 65 (aG c):=Row.new _ _ rfl;have hS2:=hS.up hS.2.2.2 ((ak _ _).alloc (af _) (.cells (au c) 65));change Calls _ _ _ (W1.alloc (.cells (au c) 65)) _;generalize (W1.alloc (.cells (au c) 65))=W2 at hr2 hS2 ⊢;have hw2:w.heap.size≤W2.heap.size:=hS2.1.size;refine (WC W2 W1.heap.size 1 c hr2.at hr2.lt HC.out.h0 HC.out.h1 HC.out.lt (HT.out.below hS2.1 iy.out) (bJ iy.out hw2)).mono ?_;rintro e W3 ⟨p,cap,rfl,hO,hB3⟩;obtain ⟨gc,ec,agS,_⟩:=gp dX hO 0 (by simp);subst ec;replace hO:=hO.mono (aJ hS2.2.2.2 (af _));have dY:=hS2.up hS2.2.2.2 hB3;clear hr2 hS2 hw2 hB3 hS hsz;go_upto_region 5 with (fail)
 obtain ⟨W5,hW5,hS5,nE,T9,hD5,Ez⟩:∃W,((W3.alloc (.cells #[.bool false, .bool true, .bool false] 4)).alloc (.cells #[.slice (some ⟨gc,0,none⟩) 2 cap, .slice none 0 0, .slice (some ⟨W3.heap.size,0,none⟩) 3 3] 79))=W∧Tv w W c∧aP 4 aG W (w.heap.size+2) 65 (.slice (some ⟨gc,0,none⟩) 2 cap) [c.non,c]∧Row Value.bool W W3.heap.size 4 [false,true,false]∧Row oV W (W3.heap.size+1) 79 (bF (some ⟨gc,0,none⟩) 2 cap none 0 0 (some ⟨W3.heap.size,0,none⟩) 3 3)∧W3.heap.size+2≤W.heap.size:=by
  have s0:(W3.alloc (.cells #[.bool false, .bool true, .bool false] 4)).heap.size=W3.heap.size+1:=bO _ _;have b0:=((ak W3.heap.size W3).alloc (af _) (.cells #[.bool false, .bool true, .bool false] 4)).alloc (by rw [s0];omega) (.cells #[.slice (some ⟨gc,0,none⟩) 2 cap, .slice none 0 0, .slice (some ⟨W3.heap.size,0,none⟩) 3 3] 79);refine ⟨_,rfl,dY.up dY.2.2.2 b0,hO.below' b0,(Row.new (f:=Value.bool) W3 (l:=[false,true,false]) _ rfl).alloc _,?_,by rw [bO,s0];omega⟩;have h:=Row.new (f:=oV) (W3.alloc (.cells #[.bool false, .bool true, .bool false] 4)) (t:=79) (l:=(bF (some ⟨gc,0,none⟩) 2 cap none 0 0 (some ⟨W3.heap.size,0,none⟩) 3 3)) (.cells #[.slice (some ⟨gc,0,none⟩) 2 cap, .slice none 0 0, .slice (some ⟨W3.heap.size,0,none⟩) 3 3] 79) rfl
  rwa [s0] at h
 rw [hW5];have TQ:w.heap.size+2≤W3.heap.size:=dY.2.2.2;clear hW5 hO dY;obtain ⟨N,HN⟩:∃N,Hid (W3.heap.size=N):=⟨_,Lib.hid rfl⟩
 rw [HN.out] at T9 hD5 Ez TQ ⊢;have Ye:∀k,(Value.slice (some ⟨gc,0,none⟩) 2 cap).ownBlock=some k→k<N:=fun k e=>by injection e with e;have:=HN.out;have e3:gc=k:=e;omega
 obtain ⟨vs,Hvs⟩:∃v,Hid (Value.slice (some ⟨gc,0,none⟩) 2 cap=v):=⟨_,Lib.hid rfl⟩
 refine oG 7 [some 22,some 23,some 24,some 25,some 26,some 27,some 6] (fun _ X=>Below W5.heap.size W5 X) (PhL W5.heap.size (.slice (some ⟨gc,0,none⟩) 2 cap)) PsL rfl (by kernel_rfl) (by kernel_rfl) (ak _ _).drew ?_ ?_
 ·intro i o hi ho a X dn val hK hd hdn hG;have hst:∀{i:Nat} {v:Value} {X':World},(i=0∨i=1∨i=3∨i=4)→Below X.heap.size X X'→∀j,j<7→j≠i→dn j=true→PhL W5.heap.size (.slice (some ⟨gc,0,none⟩) 2 cap) j (val j) X'∧PsL i j v (val j)∧PsL j i (val j) v:=fun h hb j hj _ hdj=>⟨(hK.got j hj hdj).below hb,Ym h⟩;have hmk:=uh X 2 (by omega);have hnew:Row nV (X.alloc (.cells ((List.replicate 2 0).map nV).toArray 3)) X.heap.size 3 [0,0]:=Row.new _ _ rfl;have hal:Below X.heap.size X (X.alloc (.cells ((List.replicate 2 0).map nV).toArray 3)):=(ak _ _).alloc (af _) _
  match i,hi,ho with
  | 0,_,ho=>
   obtain rfl:=eG ho;have e0:a.eval (.tmp 4)= .slice (some ⟨gc,0,none⟩) 2 cap:=by show a.tmps.getD 4 undef=_;rw [hK.old 4 (by decide)];rfl
   exact aO (v:=a.eval (.tmp 4)) (w':=X) (by first | rfl | kernel_rfl) ⟨_,rfl,hG,e0,hst (by decide) (ak _ _)⟩
  | 1,_,ho=>
   obtain rfl:=eG ho
   have e0:a.eval (.tmp 22)= .slice (some ⟨gc,0,none⟩) 2 cap:=by
    show a.tmps.getD 22 undef=_;rw [hK.slot 0 (by decide) (hd 0 (by kernel_rfl)) 22 rfl];exact hK.got 0 (by decide) (hd 0 (by kernel_rfl))
   refine aO (v:= .int .i64 2) (w':=X) ?_ ⟨_,rfl,hG,rfl,hst (by decide) (ak _ _)⟩;have e1:a.tmps[22]?.getD undef= .slice (some ⟨gc,0,none⟩) 2 cap:=by rw [← BS];exact e0
   unfold execOp;go_simp
  | 2,_,ho=>
   obtain rfl:=eG ho
   have e0:a.eval (.tmp 23)= .int .i64 2:=by
    show a.tmps.getD 23 undef=_;rw [hK.slot 1 (by decide) (hd 1 (by kernel_rfl)) 23 rfl];exact hK.got 1 (by decide) (hd 1 (by kernel_rfl))
   refine aO (v:= .slice (some ⟨X.heap.size,0,none⟩) 2 2) (w':=X.alloc (.cells ((List.replicate 2 0).map nV).toArray 3)) ?_ ⟨_,rfl,hG.alloc hG.size _,⟨X.heap.size,rfl,hG.size,hnew⟩,?_⟩
   ·unfold execOp;simp only [e0,dS]
    erw [hmk]
    rfl
   ·intro j hj _ hdj;refine ⟨(hK.got j hj hdj).below hal,?_,?_⟩
    all_goals
     intro hor;have hj5:j=5:=by simpa using hor
     subst hj5;obtain ⟨g,h1,_,h3⟩:=hK.got 5 hj hdj;rw [h1];intro e;injection e with e
     have:=h3.lt;have e2:X.heap.size=g∨g=X.heap.size:=by first | exact .inl e | exact .inr e
     omega
  | 3,_,ho=>
   obtain rfl:=eG ho;have e0:a.eval (.tmp 4)= .slice (some ⟨gc,0,none⟩) 2 cap:=by show a.tmps.getD 4 undef=_;rw [hK.old 4 (by decide)];rfl
   exact aO (v:=a.eval (.tmp 4)) (w':=X) (by first | rfl | kernel_rfl) ⟨_,rfl,hG,e0,hst (by decide) (ak _ _)⟩
  | 4,_,ho=>
   obtain rfl:=eG ho
   have e0:a.eval (.tmp 25)= .slice (some ⟨gc,0,none⟩) 2 cap:=by
    show a.tmps.getD 25 undef=_;rw [hK.slot 3 (by decide) (hd 3 (by kernel_rfl)) 25 rfl];exact hK.got 3 (by decide) (hd 3 (by kernel_rfl))
   refine aO (v:= .int .i64 2) (w':=X) ?_ ⟨_,rfl,hG,rfl,hst (by decide) (ak _ _)⟩;have e1:a.tmps[25]?.getD undef= .slice (some ⟨gc,0,none⟩) 2 cap:=by rw [← BS];exact e0
   unfold execOp;go_simp
  | 5,_,ho=>
   obtain rfl:=eG ho
   have e0:a.eval (.tmp 26)= .int .i64 2:=by
    show a.tmps.getD 26 undef=_;rw [hK.slot 4 (by decide) (hd 4 (by kernel_rfl)) 26 rfl];exact hK.got 4 (by decide) (hd 4 (by kernel_rfl))
   refine aO (v:= .slice (some ⟨X.heap.size,0,none⟩) 2 2) (w':=X.alloc (.cells ((List.replicate 2 0).map nV).toArray 3)) ?_ ⟨_,rfl,hG.alloc hG.size _,⟨X.heap.size,rfl,hG.size,hnew⟩,?_⟩
   ·unfold execOp;simp only [e0,dS]
    erw [hmk]
    rfl
   ·intro j hj _ hdj;refine ⟨(hK.got j hj hdj).below hal,?_,?_⟩
    all_goals
     intro hor;have hj2:j=2∨j=6:=by simpa using hor
     have:∃g,val j= .slice (some ⟨g,0,none⟩) 2 2∧W5.heap.size≤g∧Row nV X g 3 [0,0]:=by rcases hj2 with rfl | rfl<;>exact hK.got _ hj hdj
     obtain ⟨g,h1,_,h3⟩:=this;rw [h1];intro e;injection e with e
     have:=h3.lt;have e2:X.heap.size=g∨g=X.heap.size:=by first | exact .inl e | exact .inr e
     omega
  | 6,_,ho=>
   obtain rfl:=eG ho
   have h24:a.eval (.tmp 24)=val 2:=by
    show a.tmps.getD 24 undef=_;rw [hK.slot 2 (by decide) (hd 2 (by kernel_rfl)) 24 rfl]
   refine aO (v:=a.eval (.tmp 24)) (w':=X) (by first | rfl | kernel_rfl) ⟨_,rfl,hG,?_,?_⟩
   ·rw [h24];exact hK.got 2 (by decide) (hd 2 (by kernel_rfl))
   ·intro j hj hj6 hdj;refine ⟨hK.got j hj hdj,fun e=> ?_,fun e=> ?_⟩
    ·have:j=5:=by simpa using e
     subst this;rw [h24];exact hK.two 2 5 (by decide) (by decide) (by decide) (hd 2 (by kernel_rfl)) hdj (.inr ⟨rfl, .inl rfl⟩)
    ·have:j=5:=by simpa using e
     subst this;rw [h24];exact hK.two 5 2 (by decide) (by decide) (by decide) hdj (hd 2 (by kernel_rfl)) (.inl ⟨rfl, .inl rfl⟩)
 intro vs X dn hvl vP Ob _ hG;obtain ⟨gd,h5,hgd,hDd⟩:=vP 5 (by decide);obtain ⟨gs,h6,hgs,hSt⟩:=vP 6 (by decide)
 have hne:gd≠gs:=by
  have h:=Ob 5 6 (by decide) (by decide) (by decide) (.inl ⟨rfl, .inr rfl⟩);rw [h5,h6] at h;exact fun e=>h (by rw [e])
 obtain ⟨g2,h2,_,_⟩:=vP 2 (by decide);have h0:vs.getD 0 undef=_:=vP 0 (by decide);have h1:vs.getD 1 undef=_:=vP 1 (by decide);have h3:vs.getD 3 undef=_:=vP 3 (by decide);have h4:vs.getD 4 undef=_:=vP 4 (by decide)
 have hvs:vs=[.slice (some ⟨gc,0,none⟩) 2 cap, .int .i64 2, .slice (some ⟨g2,0,none⟩) 2 2, .slice (some ⟨gc,0,none⟩) 2 cap, .int .i64 2, .slice (some ⟨gd,0,none⟩) 2 2, .slice (some ⟨gs,0,none⟩) 2 2]:=by
  match vs,hvl with
  | [a0,a1,a2,a3,a4,a5,a6],_=>
   simp only [Fh,Ey] at h0 h1 h2 h3 h4 h5 h6;rw [h0,h1,h2,h3,h4,h5,h6]
 subst hvs;clear h0 h1 h2 h3 h4 h5 h6 vP Ob hvl;simp only [gQ,Ae,El,xY,List.drop];have hI:AJ w c N gc cap gs gd [0,0] [0,0] X:=⟨hS5.up (aJ TQ (by omega)) hG,nE.below' hG,T9.below hG T9.lt,hD5.below hG hD5.lt,hSt,hDd⟩
 have aaA:N+2≤gs:=aJ Ez hgs;have hgd2:N+2≤gd:=aJ Ez hgd;clear hS5 nE T9 hD5 hG hSt hDd hgs hgd Hvs;go_wp2_with fail;refine wp_loop_rounds 3 ?_;refine aj (n:=2) ?_;obtain ⟨n0,hn0,hh0⟩:=HC.out.no;obtain ⟨_,eK,_,hx⟩:=gp dX hI.o 0 (by simp);injection eK with eK
 injection eK with eK
 subst eK;replace hx:At oV X gc 0 (aG c.non):=hx;have hZ:Row oV (X.alloc (.cells fJ 65)) X.heap.size 65 [ow 0,ow 0,ow 0,ow 0]:=Row.new _ _ rfl
 go_wp2_with (first
  | ((with_reducible refine aN (f:=oV) (l:=aG c.non) (C:=au c.non) ay (.tmp 33) ?_ ?_ gc 0 ?_ hx rfl ?_);rfl;rfl;rfl)
  | ((with_reducible refine aF (f:=oV) (l:=[ow 0,ow 0,ow 0,ow 0]) (l':=aG c.non) (t:=65) (C:=au c.non) ay (.tmp 9) (.tmp 34) ?_ ?_ X.heap.size ?_ ?_ ?_ hZ ?_ bC ?_);rfl;rfl;rfl;rfl;rfl;rfl;(intro W02 hr2 hG2 hz2);(refine bM.back ?_)))
 have hB2:Below X.heap.size X W02:=((ak _ _).alloc (af _) _).grown hG2 (by simp) (fun k e=>by injection e with e;rw [← e];exact af _);have hI2:=hI.below hB2;have hls:=hI.st.lt;have hld:=hI.dd.lt;obtain ⟨xr0,Hxr⟩:∃n,Hid (X.heap.size=n):=⟨_,Lib.hid rfl⟩
 rw [Hxr.out] at hr2 hls hld ⊢;clear hx hZ hG2 hz2 hB2 hI Hxr;have cs:=eU hI2.st 0 (by decide);have fs:=hI2.st.frozen 0;have Oe:AJ w c N gc cap gs gd [2,0] [0,0] (W02.setCell ⟨gs,0,none⟩ (.int .i64 2)):=hI2.IX TQ aaA hne Ye 0 2;have cd:=eU Oe.dd 0 (by decide);have fd:=Oe.dd.frozen 0;have EW:AJ w c N gc cap gs gd [2,0] [2,0] ((W02.setCell ⟨gs,0,none⟩ (.int .i64 2)).setCell ⟨gd,0,none⟩ (.int .i64 2)):=Oe.ade TQ hgd2 hne Ye 0 2;have hr4:=(hr2.grown (aB W02 gs 0 (.int .i64 2)) (fun e=>by injection e with e;omega)).grown (aB _ gd 0 (.int .i64 2)) (fun e=>by injection e with e;omega);clear hI2 Oe hr2;refine bM.out ?_;go_upto_region 10 with (fail);generalize ((W02.setCell ⟨gs,0,none⟩ (.int .i64 2)).setCell ⟨gd,0,none⟩ (.int .i64 2))=Y0 at EW hr4 ⊢;clear cs fs cd fd hls hld;refine wp_region_held (S:=fun Y=>Below Y0.heap.size Y0 Y) rfl ?_;have hS:=(ak Y0.heap.size Y0).drew;refine nD 0 41 (.agg (au c)) hS ?_ rfl (aA (f:=oV) (l:=aG c) ay (.tmp 1) rfl w.heap.size 0 rfl (fun W' h=>(EW.below h).s.2.1.at) rfl rfl);refine nD 1 42 (.agg (au c.non)) hS ?_ rfl (aA (f:=oV) (l:=aG c.non) ay (.tmp 9) rfl xr0 0 rfl (fun W' h=>(hr4.below h hr4.lt).at) rfl rfl);refine Ry 2 (fun K' hK=> ?_);refine cD 43 178 #[.agg (au c.non)] ?_;refine (Dz Y0.drew c.non (HT.out.below (EW.s.1.trans (hS.mono EW.s.1.size)) iy.out)).mono ?_;rintro e Wa0 ⟨rfl,hBa⟩;rw [hn0];have jg:=hS.trans (hBa.mono hS.size);refine ⟨_,rfl,hK.out _ _ jg fun _=> ?_⟩;clear hK hBa hS;have hS:=jg;simp only [sA,sB,sC];have hw8:IntKind.u8.wrap (n0.toNat:Int)=(n0.toNat:Int):=by rw [Im];have:=n0.toNat_lt;omega
 refine nD 3 44 (.int .u8 (n0.toNat:Int)) hS ?_ rfl yg;refine Ry 4 (fun K' hK=> ?_);refine cD 45 118 #[.agg (au c), .int .u8 (n0.toNat:Int)] ?_;refine (Tf Wa0 c n0).mono ?_;rintro e Tk ⟨rfl,hBb⟩;rw [hh0];have hSb:=hS.trans (hBb.mono hS.size);refine ⟨_,rfl,hK.out _ _ hSb fun _=> ?_⟩;clear hK hBb hS;simp only [sA,sB,sC];refine wpAnyH_done (by kernel_rfl) ?_ _;have hI:=EW.below hSb;clear EW hr4 hSb jg hw8 hn0 hh0;go_wp2_with fail;refine aj (n:=1) ?_;obtain ⟨n1,hn1,hh1⟩:=HC.out.yes;obtain ⟨_,eK,_,hx⟩:=gp dX hI.o 1 (by simp);injection eK with eK
 injection eK with eK
 subst eK;replace hx:At oV Tk gc 4 (aG c):=hx;have hZ:Row oV (Tk.alloc (.cells fJ 65)) Tk.heap.size 65 [ow 0,ow 0,ow 0,ow 0]:=Row.new _ _ rfl
 go_wp2_with (first
  | ((with_reducible refine aN (f:=oV) (l:=aG c) (C:=au c) ay (.tmp 33) ?_ ?_ gc 4 ?_ hx rfl ?_);rfl;rfl;rfl)
  | ((with_reducible refine aF (f:=oV) (l:=[ow 0,ow 0,ow 0,ow 0]) (l':=aG c) (t:=65) (C:=au c) ay (.tmp 9) (.tmp 34) ?_ ?_ Tk.heap.size ?_ ?_ ?_ hZ ?_ bC ?_);rfl;rfl;rfl;rfl;rfl;rfl;(intro Om hr2 hG2 hz2);(refine bM.back ?_)))
 have hB2:Below Tk.heap.size Tk Om:=((ak _ _).alloc (af _) _).grown hG2 (by simp) (fun k e=>by injection e with e;rw [← e];exact af _);have hI2:=hI.below hB2;have hls:=hI.st.lt;have hld:=hI.dd.lt;obtain ⟨xr1,Hxr⟩:∃n,Hid (Tk.heap.size=n):=⟨_,Lib.hid rfl⟩
 rw [Hxr.out] at hr2 hls hld ⊢;clear hx hZ hG2 hz2 hB2 hI Hxr;have cs:=eU hI2.st 1 (by decide);have fs:=hI2.st.frozen 1;have Oe:AJ w c N gc cap gs gd [2,2] [2,0] (Om.setCell ⟨gs,1,none⟩ (.int .i64 2)):=hI2.IX TQ aaA hne Ye 1 2;have cd:=eU Oe.dd 1 (by decide);have fd:=Oe.dd.frozen 1;have EW:AJ w c N gc cap gs gd [2,2] [2,2] ((Om.setCell ⟨gs,1,none⟩ (.int .i64 2)).setCell ⟨gd,1,none⟩ (.int .i64 2)):=Oe.ade TQ hgd2 hne Ye 1 2;have hr4:=(hr2.grown (aB Om gs 1 (.int .i64 2)) (fun e=>by injection e with e;omega)).grown (aB _ gd 1 (.int .i64 2)) (fun e=>by injection e with e;omega);clear hI2 Oe hr2;refine bM.out ?_;go_upto_region 10 with (fail);generalize ((Om.setCell ⟨gs,1,none⟩ (.int .i64 2)).setCell ⟨gd,1,none⟩ (.int .i64 2))=Y1 at EW hr4 ⊢;clear cs fs cd fd hls hld;refine wp_region_held (S:=fun Y=>Below Y1.heap.size Y1 Y) rfl ?_;have hS:=(ak Y1.heap.size Y1).drew;refine nD 0 41 (.agg (au c)) hS ?_ rfl (aA (f:=oV) (l:=aG c) ay (.tmp 1) rfl w.heap.size 0 rfl (fun W' h=>(EW.below h).s.2.1.at) rfl rfl);refine nD 1 42 (.agg (au c)) hS ?_ rfl (aA (f:=oV) (l:=aG c) ay (.tmp 9) rfl xr1 0 rfl (fun W' h=>(hr4.below h hr4.lt).at) rfl rfl);refine Ry 2 (fun K' hK=> ?_);refine cD 43 178 #[.agg (au c)] ?_;refine (Dz Y1.drew c (HT.out.below (EW.s.1.trans (hS.mono EW.s.1.size)) iy.out)).mono ?_;rintro e Wa1 ⟨rfl,hBa⟩;rw [hn1];have jg:=hS.trans (hBa.mono hS.size);refine ⟨_,rfl,hK.out _ _ jg fun _=> ?_⟩;clear hK hBa hS;have hS:=jg;simp only [sA,sB,sC];have hw8:IntKind.u8.wrap (n1.toNat:Int)=(n1.toNat:Int):=by rw [Im];have:=n1.toNat_lt;omega
 refine nD 3 44 (.int .u8 (n1.toNat:Int)) hS ?_ rfl yg;refine Ry 4 (fun K' hK=> ?_);refine cD 45 118 #[.agg (au c), .int .u8 (n1.toNat:Int)] ?_;refine (Tf Wa1 c n1).mono ?_;rintro e Wb1 ⟨rfl,hBb⟩;rw [hh1];have hSb:=hS.trans (hBb.mono hS.size);refine ⟨_,rfl,hK.out _ _ hSb fun _=> ?_⟩;clear hK hBb hS;simp only [sA,sB,sC];refine wpAnyH_done (by kernel_rfl) ?_ _;have hI:=EW.below hSb;clear EW hr4 hSb jg hw8 hn1 hh1;have cs:=eU hI.st 1 (by decide);have fs:=hI.st.frozen 1;have hI6:AJ w c N gc cap gs gd [2,1] [2,2] (Wb1.setCell ⟨gs,1,none⟩ (.int .i64 1)):=hI.IX TQ aaA hne Ye 1 1;clear hI;have hI:=hI6;clear hI6;go_wp2_with fail;generalize (Wb1.setCell ⟨gs,1,none⟩ (.int .i64 1))=X2 at hI ⊢;clear cs fs;refine aj (n:=0) ?_;go_wp2_with fail;have hdl:=hI.dd.lt;refine (Tryz.slices_Clone_int gd 0 2 2 [2,2] X2 (by decide) (by decide) (fun j hj=> ?_)).mono ?_
 ·rw [oq,eU hI.dd j hj]
  match j,hj with
  | 0,_=>rfl
  | 1,_=>rfl
 rintro e Wc ⟨vd,rfl,Xo,_,jH⟩;replace Xo:Mem.Own nV Wc X2.heap.size 3 vd [2,2]:=Xo;obtain ⟨pd,kd,rfl⟩:=Xo.slice;have hdx:=hI.d.lt;replace hI:=hI.below jH;clear hdl jH;have hdl:=hI.d.lt;have hdc:Wc.cell? ⟨N+1,1,none⟩=some (.slice none 0 0):=by rw [hI.d.cell?];rfl
 have hdf:=hI.d.frozen 1;go_upto_region 14 with (fail);have zM:=aB Wc (N+1) 1 (.slice (some ⟨Wc.heap.size,0,none⟩) 3 3);have hal:Below (Wc.setCell ⟨N+1,1,none⟩ (.slice (some ⟨Wc.heap.size,0,none⟩) 3 3)).heap.size (Wc.setCell ⟨N+1,1,none⟩ (.slice (some ⟨Wc.heap.size,0,none⟩) 3 3)) ((Wc.setCell ⟨N+1,1,none⟩ (.slice (some ⟨Wc.heap.size,0,none⟩) 3 3)).alloc (.cells #[.slice (some ⟨gs,0,none⟩) 2 2, .slice (some ⟨gd,0,none⟩) 2 2, .slice pd 2 kd] 92)):=(ak _ _).alloc (af _) _;have hd1:Row oV (Wc.setCell ⟨N+1,1,none⟩ (.slice (some ⟨Wc.heap.size,0,none⟩) 3 3)) (N+1) 79 (bF (some ⟨gc,0,none⟩) 2 cap (some ⟨Wc.heap.size,0,none⟩) 3 3 (some ⟨N,0,none⟩) 3 3):=hI.d.set 1 ⟨.slice (some ⟨Wc.heap.size,0,none⟩) 3 3,rfl⟩;have hd2:=hd1.below hal hd1.lt;have ho2:=(hI.o.grown zM (fun g e e2=>by injection e2 with e2;have:=Ye g e;omega)).below' hal;have ha1:=hI.a.grown zM (fun e=>by injection e with e;omega);have ha2:=ha1.below hal ha1.lt;have hs1:=hI.st.grown zM (fun e=>by injection e with e;omega);have hs2:=hs1.below hal hs1.lt;have abM:=hI.dd.grown zM (fun e=>by injection e with e;omega);have UJ:=abM.below hal abM.lt
 have hn2:Row oV ((Wc.setCell ⟨N+1,1,none⟩ (.slice (some ⟨Wc.heap.size,0,none⟩) 3 3)).alloc (.cells #[.slice (some ⟨gs,0,none⟩) 2 2, .slice (some ⟨gd,0,none⟩) 2 2, .slice pd 2 kd] 92)) Wc.heap.size 92 (bF (some ⟨gs,0,none⟩) 2 2 (some ⟨gd,0,none⟩) 2 2 pd 2 kd):=by
  have h:=Row.new (f:=oV) (Wc.setCell ⟨N+1,1,none⟩ (.slice (some ⟨Wc.heap.size,0,none⟩) 3 3)) (t:=92) (l:=bF (some ⟨gs,0,none⟩) 2 2 (some ⟨gd,0,none⟩) 2 2 pd 2 kd) (.cells #[.slice (some ⟨gs,0,none⟩) 2 2, .slice (some ⟨gd,0,none⟩) 2 2, .slice pd 2 kd] 92) rfl
  rwa [show (Wc.setCell ⟨N+1,1,none⟩ (.slice (some ⟨Wc.heap.size,0,none⟩) 3 3)).heap.size=Wc.heap.size by simp] at h
 have hv2:=(Xo.kept zM (fun g hg e=>by injection e with e;have:=(Xo.lt g hg).1;omega)).below' hal
 have hc1:Tv w (Wc.setCell ⟨N+1,1,none⟩ (.slice (some ⟨Wc.heap.size,0,none⟩) 3 3)) c:=
  ⟨hI.s.1.grown zM hI.s.1.size (fun j e=>by injection e with e;omega),hI.s.2.1.grown zM (fun e=>by injection e with e;omega),hI.s.2.2.1.grown zM (fun e=>by injection e with e;omega),aJ hI.s.2.2.2 zM.size⟩
 have hc2:=hc1.up hc1.2.2.2 hal;generalize ((Wc.setCell ⟨N+1,1,none⟩ (.slice (some ⟨Wc.heap.size,0,none⟩) 3 3)).alloc (.cells #[.slice (some ⟨gs,0,none⟩) 2 2, .slice (some ⟨gd,0,none⟩) 2 2, .slice pd 2 kd] 92))=W9 at hd2 ho2 ha2 hs2 UJ hn2 hv2 hc2 ⊢;clear hal hd1 ha1 hs1 abM hc1;clear hdc hdf zM Xo hI;generalize Wc.heap.size=gn at hd2 hn2 ⊢
 have hDf:dm W9 (.agg #[.slice (some ⟨gc,0,none⟩) 2 cap, .slice (some ⟨gn,0,none⟩) 3 3, .slice (some ⟨N,0,none⟩) 3 3]) (bZ c):=by
  refine ⟨_,_,_,rfl,ho2.rd dX, .inr ⟨gn,0,3,rfl,af _,fun i hi=> ?_,hn2.lt⟩, .inr ⟨N,0,3,rfl,af _,ha2.at,ha2.lt⟩⟩
  match i,hi with
  | 0,_=>exact ⟨.slice (some ⟨gs,0,none⟩) 2 2,by rw [hn2.cell?];rfl, .inr ⟨gs,0,2,rfl,af _,hs2.at,hs2.lt⟩⟩
  | 1,_=>exact ⟨.slice (some ⟨gd,0,none⟩) 2 2,by rw [hn2.cell?];rfl, .inr ⟨gd,0,2,rfl,af _,UJ.at,UJ.lt⟩⟩
  | 2,_=>exact ⟨.slice pd 2 kd,by rw [hn2.cell?];rfl,hv2.rd⟩
 have UX:=Lib.hid (Zy W9 _ (bZ c) hDf HC.out.v (HT.out.below hc2.1 iy.out) (bJ iy.out hc2.1.size));have hR9:=hc2.2.2.1;have GM:=hc2.1;have hL9:=hc2.2.2.2;clear ho2 ha2 hs2 UJ hn2 hv2 hDf hc2;have yK:=Lib.hid (jD HC.out.v.toOk);obtain ⟨D,HD⟩:∃D,Hid ((bP (bZ c)).canon=D):=⟨_,Lib.hid rfl⟩
 have GV:Hid D.Ok:=Lib.hid (HD.out▸yK.out.canon.1);rw [HD.out] at UX;have HE:Hid (∀(w':World) v,fF w' v (.ok D)→fF w' v (.ok (bP (bZ c)).canon)):=Lib.hid (fun w' v h=>by rw [HD.out];exact h);go_wp2_with ((with_reducible refine aN (f:=oV) (l:=bF (some ⟨gc,0,none⟩) 2 cap (some ⟨gn,0,none⟩) 3 3 (some ⟨N,0,none⟩) 3 3) (C:= #[.slice (some ⟨gc,0,none⟩) 2 cap, .slice (some ⟨gn,0,none⟩) 3 3, .slice (some ⟨N,0,none⟩) 3 3]) bN (.tmp 5) ?_ ?_ (N+1) 0 ?_ hd2.at ?_ ?_);rfl;rfl;rfl;rfl);refine UX.out.mono ?_;rintro e Wf ⟨v,rfl,⟨u,rfl,hu⟩,dO⟩;obtain ⟨q1,j1,q2,j2,q3,j3,rfl⟩:=hu.parts;have Oi:=hR9.below dO (by omega);obtain ⟨n1,Z5⟩:∃n,Hid (D.cls.length=n):=⟨_,Lib.hid rfl⟩
 obtain ⟨n2,ZA⟩:∃n,Hid (D.nx.length=n):=⟨_,Lib.hid rfl⟩
 obtain ⟨n3,ZT⟩:∃n,Hid (D.ac.length=n):=⟨_,Lib.hid rfl⟩
 rw [Z5.out,ZA.out,ZT.out] at hu ⊢;go_wp2_with ((with_reducible refine aF (f:=oV) (l:=[on,on,on]) (l':=bF q1 n1 j1 q2 n2 j2 q3 n3 j3) (t:=79) (C:= #[.slice q1 n1 j1, .slice q2 n2 j2, .slice q3 n3 j3]) bN (.tmp 2) (.tmp 58) ?_ ?_ (w.heap.size+1) ?_ ?_ ?_ Oi ?_ bC ?_);rfl;rfl;rfl;rfl;rfl;rfl;(intro WZ EC vZ Xh));have hBZ:Below w.heap.size w WZ:=(GM.trans (dO.mono GM.size)).grown vZ (aJ GM.size dO.size) (fun k e=>by injection e with e;omega);refine bodyPost_ret (v:= .tuple #[.agg #[.slice q1 n1 j1, .slice q2 n2 j2, .slice q3 n3 j3], .int .i64 0]) (bD (f:=oV) (l:=bF q1 n1 j1 q2 n2 j2 q3 n3 j3) (t:=3) rfl _ bN (w.heap.size+1) 0 rfl EC.at) rfl ?_;exact ⟨_,rfl,HE.out _ _ ⟨_,rfl,hu.avoid GV.out Oi vZ⟩,hBZ⟩
end
end Go.Proofs.YtncnfncglacheaaGreatDoor
