/- class.Cells of no class. -/
import Derived.Test.YtncnfncglacheaaGreatDoorMHeldD
import Derived.Test.YtncnfncglacheaaGreatDoorMMembC
import Derived.Test.YtncnfncglacheaaGreatDoorMCells
import Derived.Test.YtncnfncglacheaaGreatDoorMFree
import Derived.Test.YtncnfncglacheaaGreatDoorMRefine
import Derived.Test.YtncnfncglacheaaGreatDoorMShelf
import Derived.Test.YtncnfncglacheaaGreatDoorMClass
import Derived.Test.YtncnfncglacheaaGreatDoorMDfM
namespace Go.Proofs.YtncnfncglacheaaGreatDoor
open Go Go.RowKit Mem
set_option maxRecDepth 100000
set_option maxHeartbeats 16000000
section
variable {α:Type} {K:Nat} {enc:α→List OC} {w:World} {base:Nat} {e:TypeId} {l:List α}
variable {P:Program} {o:Oper} {a:Act} {Q:Exit→Act→World→Prop}
theorem free_store_elem {K1:Act→World→Prop} {ty:TypeId} (T:AggT P ty K) (hk:∀x,(enc x).length=K) (x y:Operand) (ho:o.op= .store ty x y) (g n c k off:Nat) (hoff:off=k * K) (hx:a.eval x= .pointer (some ⟨g,off,none⟩))
  (z:α) {C:Array Value} (hC:C=((enc z).map oV).toArray) (hy:a.eval y= .agg C) (h:OwnK K enc w base e (.slice (some ⟨g,0,none⟩) n c) l) (hkl:k<l.length)
  (hK:∀w',OwnK K enc w' base e (.slice (some ⟨g,0,none⟩) n c) (l.set k z)→w.grownBy w' (some g)→K1 (a.put o.dst undef) w'):o.wp P a w K1 Q:=by
 subst hC hoff
 rcases h.2 with ⟨h0,_⟩ | ⟨g2,cap,cur,he,hbg,hc,hn,hm,hs,ht⟩
 ·cases h0
 ·injection he with he1 he2 he3
  injection he1 with he1
  injection he1 with he1 _ _
  subst he1 he2 he3
  have hsz:l.length * K≤cur.toList.length:=by
   rw [Array.length_toList (xs:=cur),hs]
   exact Nat.mul_le_mul_right K hn
  obtain ⟨c1,c2⟩:=ownK_cells hk l k hkl z cur.toList hsz ht
  have hkK:k * K+K≤l.length * K:=by
   have:=Nat.mul_le_mul_right K (show k+1≤l.length by omega)
   rw [Nat.add_mul,Nat.one_mul] at this
   exact this
  have hrun:=run_storeCells_at P g (k * K) e ((enc z).map oV) 0 cur w hc (by rw [List.length_map,hk];rw [Array.length_toList (xs:=cur)] at hsz;omega) (fun v hv=>by obtain ⟨y,_,rfl⟩:=List.mem_map.1 hv;exact y.2)
  simp only [Nat.add_zero,List.length_map,hk] at hrun
  have hr:(storeVar ty ⟨g,k * K,none⟩ (.agg ((enc z).map oV).toArray)).run P w= .ok () (w.setRow g (cur.toList.take (k * K)++(enc z).map oV++cur.toList.drop (k * K+K)).toArray):=by
   simp [storeVar,Value.cells,Sem.run_bind,T.size,hk]
   simpa using hrun
  unfold Oper.wp execOp
  simp only [ho,hx,hy,Instr.storeAt,Instr.sureAddr,Sem.run_bind,Sem.run_pure,Result.andThen_ok,hr]
  refine hK _ ?_ (setRow_grown w g _)
  unfold OwnK
  rw [List.length_set]
  refine ⟨by rw [List.length_map,flat_len enc _ hk,List.length_set], .inr ⟨g,c,_,rfl,hbg,setRow_heap w g _ _ e (0,0) hc,hn,hm,?_,c1⟩⟩
  rw [List.size_toArray,c2,Array.length_toList (xs:=cur),hs]
end
theorem least_bounds (c:Cl): -1≤c.least∧c.least≤255:=by
 unfold Cl.least
 cases h:memN c 256 with
 | nil=>simp
 | cons x l=>
  have:x∈memN c 256:=by rw [h];simp
  have:=memN_lt c 256 x this
  simp only
  omega
theorem clCmp (w:World) (a b:Cl) (hT:Tab w) (htl:1<w.heap.size):
  Calls Tryz.prog 226 #[.agg (clA a), .agg (clA b)] w fun e w'=>e= .returned (.int .i64 (a.least - b.least))∧Below w.heap.size w w':=by
 have r0:Row oV (w.alloc (.cells (clA a) 65)) w.heap.size 65 (clL a):=Row.new _ _ rfl
 have s0:(w.alloc (.cells (clA a) 65)).heap.size=w.heap.size+1:=World.size_alloc _ _
 have r1:Row oV ((w.alloc (.cells (clA a) 65)).alloc (.cells (clA b) 65)) (w.heap.size+1) 65 (clL b):=by
  have h:=Row.new (f:=oV) (w.alloc (.cells (clA a) 65)) (t:=65) (l:=clL b) (.cells (clA b) 65) rfl
  rwa [s0] at h
 have r0':=r0.alloc (.cells (clA b) 65)
 have b0:Below w.heap.size w ((w.alloc (.cells (clA a) 65)).alloc (.cells (clA b) 65)):=((Below.refl _ _).alloc (Nat.le_refl _) _).alloc (by rw [s0];omega) _
 clear r0 s0
 go_enter Tryz.func226,Tryz.ntmps226
 go_upto_region 1 with (fail)
 generalize ((w.alloc (.cells (clA a) 65)).alloc (.cells (clA b) 65))=W at r0' r1 b0 ⊢
 have hl0:=r0'.lt
 have hl1:=r1.lt
 refine region_headsT (S:=fun X=>Below W.heap.size W X) 5 rfl (by kernel_rfl) (Below.refl _ _).drew fun hS=> ?_
 refine tk 0 5 (.agg (clA a)) hS ?_ rfl (yieldsIf_load (f:=oV) (l:=clL a) aggCl (.tmp 2) rfl w.heap.size 0 rfl (fun W' h=>(r0'.below h hl0).at) rfl rfl)
 refine tk 2 7 (.agg (clA b)) hS ?_ rfl (yieldsIf_load (f:=oV) (l:=clL b) aggCl (.tmp 3) rfl (w.heap.size+1) 0 rfl (fun W' h=>(r1.below h hl1).at) rfl rfl)
 refine rdT 1 (fun K' hK=> ?_)
 refine cD 6 178 #[.agg (clA a)] ?_
 refine (clLeast W.drew a ((hT.below b0 htl).below hS (Nat.lt_of_lt_of_le htl b0.size))).mono ?_
 rintro e Wa ⟨rfl,hBa⟩
 obtain ⟨al,Hal⟩:∃n,Hid (a.least=n):=⟨_,Lib.hid rfl⟩
 obtain ⟨bl,Hbl⟩:∃n,Hid (b.least=n):=⟨_,Lib.hid rfl⟩
 have ha1:=least_bounds a
 have hb1:=least_bounds b
 rw [Hal.out] at ha1 ⊢
 rw [Hbl.out] at hb1
 have hSa:=hS.trans (hBa.mono hS.size)
 refine ⟨_,rfl,hK.out _ _ hSa fun _=> ?_⟩
 clear hK hBa hS
 have hS:=hSa
 simp only [sA,sB,sC]
 refine rdT 3 (fun K' hK=> ?_)
 refine cD 8 178 #[.agg (clA b)] ?_
 refine (clLeast Wa b ((hT.below b0 htl).below hS (Nat.lt_of_lt_of_le htl b0.size))).mono ?_
 rintro e Wb ⟨rfl,hBb⟩
 rw [Hbl.out]
 have hSb:=hS.trans (hBb.mono hS.size)
 refine ⟨_,rfl,hK.out _ _ hSb fun _=> ?_⟩
 clear hK hBb hS hSa
 have hS:=hSb
 simp only [sA,sB,sC]
 refine tk 4 9 (.int .i64 (al - bl)) hS ?_ rfl (yo fun w=>by go_simp;rw [IntKind.wrap_i64];omega)
 refine headsT_tail (by kernel_rfl) ?_
 simp only [List.drop]
 go_wp2_with fail
 go_ret
 exact ⟨by rw [Hal.out,Hbl.out];rfl,b0.trans (hSb.mono b0.size)⟩
theorem ownK_two {w:World} {base g cap:Nat} {a b:Cl} (h:OwnK 4 clL w base 65 (.slice (some ⟨g,0,none⟩) 2 cap) [a,b]):At oV w g 0 (clL a)∧At oV w g 4 (clL b)∧base≤g∧g<w.heap.size:=by
 obtain ⟨g1,e1,h1,h2⟩:=ownK_elem (p:=some ⟨g,0,none⟩) (c:=cap) (l:=[a,b]) clL_len4 h 0 (by simp)
 obtain ⟨g2,e2,_,h3⟩:=ownK_elem (p:=some ⟨g,0,none⟩) (c:=cap) (l:=[a,b]) clL_len4 h 1 (by simp)
 injection e1 with e1
 injection e1 with e1
 injection e2 with e2
 injection e2 with e2
 subst e1
 subst e2
 refine ⟨?_,?_,(h.lt g rfl).1,h1⟩
 ·simpa using h2
 ·simpa using h3
def swV (g cap:Nat) (a b:Cl):List Value:=
 [.slice (some ⟨g,0,none⟩) 2 cap, .int .i64 1, .slice (some ⟨g,0,none⟩) 2 cap, .int .i64 1, .int .i64 0, .slice (some ⟨g,0,none⟩) 2 cap, .int .i64 1, .int .i64 0, .pointer (some ⟨g,0,none⟩), .agg (clA a), .slice (some ⟨g,0,none⟩) 2 cap, .int .i64 1, .pointer (some ⟨g,4,none⟩), .agg (clA b), .pointer (some ⟨g,4,none⟩)]
theorem insertion2 (w:World) (base g cap:Nat) (a b:Cl) (ho:OwnK 4 clL w base 65 (.slice (some ⟨g,0,none⟩) 2 cap) [a,b]) (hlt:b.least<a.least) (hT:Tab w) (htl:1<w.heap.size):
  Calls Tryz.prog 265 #[.slice (some ⟨g,0,none⟩) 2 cap, .int .i64 0, .int .i64 2, .func (.func 226) #[] #[]] w fun e w'=>e= .returned (.tuple #[])∧OwnK 4 clL w' base 65 (.slice (some ⟨g,0,none⟩) 2 cap) [b,a]∧w.grownBy w' (some g):=by
 have HO:=Lib.hid ho
 have HL:=Lib.hid hlt
 have HT:=Lib.hid hT
 have Htl:=Lib.hid htl
 clear ho hlt hT htl
 go_enter Tryz.func265,Tryz.ntmps265
 go_wp2_with fail
 refine wp_loop_rounds 2 ?_
 refine rounds_step (n:=1) ?_
 go_wp2_with fail
 refine wp_loop_rounds 2 ?_
 refine rounds_step (n:=1) ?_
 have hW:∀X,Below w.heap.size w X→At oV X g 0 (clL a)∧At oV X g 4 (clL b):=fun X h=>by
  obtain ⟨h1,h2,_,h4⟩:=ownK_two HO.out
  exact ⟨h1.below h h4,h2.below h h4⟩
 go_upto_region 4 with (fail)
 refine region_headsT (S:=fun X=>Below w.heap.size w X) 16 rfl (by kernel_rfl) (Below.refl _ _).drew fun hS=> ?_
 refine tk 0 18 (.int .i64 1) hS ?_
 refine tk 1 19 (.int .i64 0) hS ?_
 refine tk 2 20 (.bool true) hS ?_
 refine tk 3 21 (.bool true) hS ?_
 refine tk 4 22 (.func (.func 226) #[] #[]) hS ?_
 refine tk 5 23 (.slice (some ⟨g,0,none⟩) 2 cap) hS ?_
 refine tk 6 24 (.int .i64 1) hS ?_
 refine tk 7 25 (.pointer (some ⟨g,4,none⟩)) hS ?_
 refine tk 8 26 (.agg (clA b)) hS ?_ rfl (yieldsIf_load (f:=oV) (l:=clL b) aggCl (.tmp 25) rfl g 4 rfl (fun W' h=>(hW W' h).2) rfl rfl)
 refine tk 9 27 (.slice (some ⟨g,0,none⟩) 2 cap) hS ?_
 refine tk 10 28 (.int .i64 1) hS ?_
 refine tk 11 29 (.int .i64 0) hS ?_
 refine tk 12 30 (.pointer (some ⟨g,0,none⟩)) hS ?_
 refine tk 13 31 (.agg (clA a)) hS ?_ rfl (yieldsIf_load (f:=oV) (l:=clL a) aggCl (.tmp 30) rfl g 0 rfl (fun W' h=>(hW W' h).1) rfl rfl)
 refine rdT 14 (fun K' hK=> ?_)
 refine cD 32 226 #[.agg (clA b), .agg (clA a)] ?_
 refine (clCmp w.drew b a (HT.out.below hS Htl.out) Htl.out).mono ?_
 rintro e Wa ⟨rfl,hBa⟩
 obtain ⟨df,Hdf⟩:∃n,Hid (b.least - a.least=n):=⟨_,Lib.hid rfl⟩
 have hneg:df<0:=by rw [← Hdf.out];have:=HL.out;omega
 rw [Hdf.out]
 have hSa:=hS.trans (hBa.mono hS.size)
 refine ⟨_,rfl,hK.out _ _ hSa fun _=> ?_⟩
 clear hK hBa hS
 have hS:=hSa
 simp only [sA,sB,sC]
 refine tk 15 33 (.bool true) hS ?_ rfl yg
 refine headsT_tail (by kernel_rfl) ?_
 simp only [List.drop]
 have hgW:Below w.heap.size w Wa:=hSa
 have HOA:=Lib.hid (HO.out.below hgW (fun k e=>(HO.out.lt k e).2))
 obtain ⟨_,_,hbg,hgl⟩:=ownK_two HO.out
 clear hS hSa hW
 obtain ⟨sw,Hsw⟩:∃l:List Value,Hid (l=swV g cap a b):=⟨_,Lib.hid rfl⟩
 go_upto_region 6 with (fail)
 refine region_free3 16 [some 37,some 38,some 39,some 40,some 41,some 42,some 43,some 44,some 45,some 46,some 47,some 48,some 49,some 50,some 51,none] (fun dn X=>(dn 15=false→OwnK 4 clL X base 65 (.slice (some ⟨g,0,none⟩) 2 cap) [a,b])∧(dn 15=true→OwnK 4 clL X base 65 (.slice (some ⟨g,0,none⟩) 2 cap) [a,a])∧Wa.grownBy X (some g)) (fun i v _=>i=15∨v=(swV g cap a b).getD i undef) (fun _ _ _ _=>True) rfl (by kernel_rfl) (by kernel_rfl) ⟨fun _=>HOA.out,(fun e=>by cases e),⟨rfl,rfl,rfl,Nat.le_refl _,fun _ _ _=>rfl⟩⟩ ?_ ?_
 ·intro i o hi ho2 ac X dn val hK hd hdn hG
  have hst:∀{i:Nat},i≠15→(((if 15=i then true else dn 15)=false→OwnK 4 clL X base 65 (.slice (some ⟨g,0,none⟩) 2 cap) [a,b])∧((if 15=i then true else dn 15)=true→OwnK 4 clL X base 65 (.slice (some ⟨g,0,none⟩) 2 cap) [a,a])∧Wa.grownBy X (some g)):=fun h=>by rw [if_neg (fun e=>h e.symm)];exact hG
  have hj:∀j,j<16→j≠i→dn j=true→(j=15∨val j=(swV g cap a b).getD j undef)∧True∧True:=fun j hj _ hdj=>⟨hK.got j hj hdj,trivial,trivial⟩
  match i,hi,ho2 with
  | _+16,h,_=>exact absurd h (by omega)
  | 0,_,ho2=>
   obtain rfl:=Option.some.inj ho2
   have e0:ac.eval (.tmp 0)= .slice (some ⟨g,0,none⟩) 2 cap:=by show ac.tmps.getD 0 undef=_;rw [hK.old 0 (by decide)];rfl
   refine free_value (v:= .slice (some ⟨g,0,none⟩) 2 cap) (w':=X) ?_ ⟨_,rfl,hst (by decide), .inr rfl,hj⟩
   unfold execOp
   simp only [e0]
   go_simp
  | 1,_,ho2=>
   obtain rfl:=Option.some.inj ho2
   have e9:ac.eval (.tmp 9)= .int .i64 1:=by show ac.tmps.getD 9 undef=_;rw [hK.old 9 (by decide)];rfl
   refine free_value (v:= .int .i64 1) (w':=X) ?_ ⟨_,rfl,hst (by decide), .inr rfl,hj⟩
   unfold execOp
   simp only [e9]
   go_simp
  | 2,_,ho2=>
   obtain rfl:=Option.some.inj ho2
   have e0:ac.eval (.tmp 0)= .slice (some ⟨g,0,none⟩) 2 cap:=by show ac.tmps.getD 0 undef=_;rw [hK.old 0 (by decide)];rfl
   refine free_value (v:= .slice (some ⟨g,0,none⟩) 2 cap) (w':=X) ?_ ⟨_,rfl,hst (by decide), .inr rfl,hj⟩
   unfold execOp
   simp only [e0]
   go_simp
  | 3,_,ho2=>
   obtain rfl:=Option.some.inj ho2
   have e9:ac.eval (.tmp 9)= .int .i64 1:=by show ac.tmps.getD 9 undef=_;rw [hK.old 9 (by decide)];rfl
   refine free_value (v:= .int .i64 1) (w':=X) ?_ ⟨_,rfl,hst (by decide), .inr rfl,hj⟩
   unfold execOp
   simp only [e9]
   go_simp
  | 4,_,ho2=>
   obtain rfl:=Option.some.inj ho2
   have e40:ac.eval (.tmp 40)=(swV g cap a b).getD 3 undef:=by
    show ac.tmps.getD 40 undef=_
    rw [hK.slot 3 (by decide) (hd 3 (by kernel_rfl)) 40 rfl]
    rcases hK.got 3 (by decide) (hd 3 (by kernel_rfl)) with h | h
    ·cases h
    ·exact h
   have e40:ac.eval (.tmp 40)=_:=e40
   simp only [swV,List.getD_cons_succ,List.getD_cons_zero] at e40
   refine free_value (v:= .int .i64 0) (w':=X) ?_ ⟨_,rfl,hst (by decide), .inr rfl,hj⟩
   unfold execOp
   simp only [e40]
   go_simp
   first | done | rfl | decide
  | 5,_,ho2=>
   obtain rfl:=Option.some.inj ho2
   have e0:ac.eval (.tmp 0)= .slice (some ⟨g,0,none⟩) 2 cap:=by show ac.tmps.getD 0 undef=_;rw [hK.old 0 (by decide)];rfl
   refine free_value (v:= .slice (some ⟨g,0,none⟩) 2 cap) (w':=X) ?_ ⟨_,rfl,hst (by decide), .inr rfl,hj⟩
   unfold execOp
   simp only [e0]
   go_simp
  | 6,_,ho2=>
   obtain rfl:=Option.some.inj ho2
   have e9:ac.eval (.tmp 9)= .int .i64 1:=by show ac.tmps.getD 9 undef=_;rw [hK.old 9 (by decide)];rfl
   refine free_value (v:= .int .i64 1) (w':=X) ?_ ⟨_,rfl,hst (by decide), .inr rfl,hj⟩
   unfold execOp
   simp only [e9]
   go_simp
  | 7,_,ho2=>
   obtain rfl:=Option.some.inj ho2
   have e43:ac.eval (.tmp 43)=(swV g cap a b).getD 6 undef:=by
    show ac.tmps.getD 43 undef=_
    rw [hK.slot 6 (by decide) (hd 6 (by kernel_rfl)) 43 rfl]
    rcases hK.got 6 (by decide) (hd 6 (by kernel_rfl)) with h | h
    ·cases h
    ·exact h
   have e43:ac.eval (.tmp 43)=_:=e43
   simp only [swV,List.getD_cons_succ,List.getD_cons_zero] at e43
   refine free_value (v:= .int .i64 0) (w':=X) ?_ ⟨_,rfl,hst (by decide), .inr rfl,hj⟩
   unfold execOp
   simp only [e43]
   go_simp
   first | done | rfl | decide
  | 8,_,ho2=>
   obtain rfl:=Option.some.inj ho2
   have e42:ac.eval (.tmp 42)=(swV g cap a b).getD 5 undef:=by
    show ac.tmps.getD 42 undef=_
    rw [hK.slot 5 (by decide) (hd 5 (by kernel_rfl)) 42 rfl]
    rcases hK.got 5 (by decide) (hd 5 (by kernel_rfl)) with h | h
    ·cases h
    ·exact h
   have e42:ac.eval (.tmp 42)=_:=e42
   simp only [swV,List.getD_cons_succ,List.getD_cons_zero] at e42
   have e44:ac.eval (.tmp 44)=(swV g cap a b).getD 7 undef:=by
    show ac.tmps.getD 44 undef=_
    rw [hK.slot 7 (by decide) (hd 7 (by kernel_rfl)) 44 rfl]
    rcases hK.got 7 (by decide) (hd 7 (by kernel_rfl)) with h | h
    ·cases h
    ·exact h
   have e44:ac.eval (.tmp 44)=_:=e44
   simp only [swV,List.getD_cons_succ,List.getD_cons_zero] at e44
   refine free_value (v:= .pointer (some ⟨g,0,none⟩)) (w':=X) ?_ ⟨_,rfl,hst (by decide), .inr rfl,hj⟩
   unfold execOp
   simp only [e42,e44]
   go_simp
  | 9,_,ho2=>
   obtain rfl:=Option.some.inj ho2
   have e45:ac.eval (.tmp 45)=(swV g cap a b).getD 8 undef:=by
    show ac.tmps.getD 45 undef=_
    rw [hK.slot 8 (by decide) (hd 8 (by kernel_rfl)) 45 rfl]
    rcases hK.got 8 (by decide) (hd 8 (by kernel_rfl)) with h | h
    ·cases h
    ·exact h
   have e45:ac.eval (.tmp 45)=_:=e45
   simp only [swV,List.getD_cons_succ,List.getD_cons_zero] at e45
   have h15:dn 15=false:=by
    cases h:dn 15 with
    | false=>rfl
    | true=>
     have:=hK.clo 15 _ (by decide) rfl h 9 (by kernel_rfl)
     rw [hdn] at this;cases this
   have hAt:=(ownK_two (hG.1 h15)).1
   exact free_load (f:=oV) (lv:=clL a) aggCl (.tmp 45) rfl g 0 e45 hAt rfl ⟨_,rfl,hst (by decide), .inr rfl,hj⟩
  | 10,_,ho2=>
   obtain rfl:=Option.some.inj ho2
   have e0:ac.eval (.tmp 0)= .slice (some ⟨g,0,none⟩) 2 cap:=by show ac.tmps.getD 0 undef=_;rw [hK.old 0 (by decide)];rfl
   refine free_value (v:= .slice (some ⟨g,0,none⟩) 2 cap) (w':=X) ?_ ⟨_,rfl,hst (by decide), .inr rfl,hj⟩
   unfold execOp
   simp only [e0]
   go_simp
  | 11,_,ho2=>
   obtain rfl:=Option.some.inj ho2
   have e9:ac.eval (.tmp 9)= .int .i64 1:=by show ac.tmps.getD 9 undef=_;rw [hK.old 9 (by decide)];rfl
   refine free_value (v:= .int .i64 1) (w':=X) ?_ ⟨_,rfl,hst (by decide), .inr rfl,hj⟩
   unfold execOp
   simp only [e9]
   go_simp
  | 12,_,ho2=>
   obtain rfl:=Option.some.inj ho2
   have e47:ac.eval (.tmp 47)=(swV g cap a b).getD 10 undef:=by
    show ac.tmps.getD 47 undef=_
    rw [hK.slot 10 (by decide) (hd 10 (by kernel_rfl)) 47 rfl]
    rcases hK.got 10 (by decide) (hd 10 (by kernel_rfl)) with h | h
    ·cases h
    ·exact h
   have e47:ac.eval (.tmp 47)=_:=e47
   simp only [swV,List.getD_cons_succ,List.getD_cons_zero] at e47
   have e48:ac.eval (.tmp 48)=(swV g cap a b).getD 11 undef:=by
    show ac.tmps.getD 48 undef=_
    rw [hK.slot 11 (by decide) (hd 11 (by kernel_rfl)) 48 rfl]
    rcases hK.got 11 (by decide) (hd 11 (by kernel_rfl)) with h | h
    ·cases h
    ·exact h
   have e48:ac.eval (.tmp 48)=_:=e48
   simp only [swV,List.getD_cons_succ,List.getD_cons_zero] at e48
   refine free_value (v:= .pointer (some ⟨g,4,none⟩)) (w':=X) ?_ ⟨_,rfl,hst (by decide), .inr rfl,hj⟩
   unfold execOp
   simp only [e47,e48]
   go_simp
  | 13,_,ho2=>
   obtain rfl:=Option.some.inj ho2
   have e49:ac.eval (.tmp 49)=(swV g cap a b).getD 12 undef:=by
    show ac.tmps.getD 49 undef=_
    rw [hK.slot 12 (by decide) (hd 12 (by kernel_rfl)) 49 rfl]
    rcases hK.got 12 (by decide) (hd 12 (by kernel_rfl)) with h | h
    ·cases h
    ·exact h
   have e49:ac.eval (.tmp 49)=_:=e49
   simp only [swV,List.getD_cons_succ,List.getD_cons_zero] at e49
   have h15:dn 15=false:=by
    cases h:dn 15 with
    | false=>rfl
    | true=>
     have:=hK.clo 15 _ (by decide) rfl h 13 (by kernel_rfl)
     rw [hdn] at this;cases this
   have hAt:=(ownK_two (hG.1 h15)).2.1
   exact free_load (f:=oV) (lv:=clL b) aggCl (.tmp 49) rfl g 4 e49 hAt rfl ⟨_,rfl,hst (by decide), .inr rfl,hj⟩
  | 14,_,ho2=>
   obtain rfl:=Option.some.inj ho2
   have e37:ac.eval (.tmp 37)=(swV g cap a b).getD 0 undef:=by
    show ac.tmps.getD 37 undef=_
    rw [hK.slot 0 (by decide) (hd 0 (by kernel_rfl)) 37 rfl]
    rcases hK.got 0 (by decide) (hd 0 (by kernel_rfl)) with h | h
    ·cases h
    ·exact h
   have e37:ac.eval (.tmp 37)=_:=e37
   simp only [swV,List.getD_cons_succ,List.getD_cons_zero] at e37
   have e38:ac.eval (.tmp 38)=(swV g cap a b).getD 1 undef:=by
    show ac.tmps.getD 38 undef=_
    rw [hK.slot 1 (by decide) (hd 1 (by kernel_rfl)) 38 rfl]
    rcases hK.got 1 (by decide) (hd 1 (by kernel_rfl)) with h | h
    ·cases h
    ·exact h
   have e38:ac.eval (.tmp 38)=_:=e38
   simp only [swV,List.getD_cons_succ,List.getD_cons_zero] at e38
   refine free_value (v:= .pointer (some ⟨g,4,none⟩)) (w':=X) ?_ ⟨_,rfl,hst (by decide), .inr rfl,hj⟩
   unfold execOp
   simp only [e37,e38]
   go_simp
  | 15,_,ho2=>
   obtain rfl:=Option.some.inj ho2
   have e51:ac.eval (.tmp 51)=(swV g cap a b).getD 14 undef:=by
    show ac.tmps.getD 51 undef=_
    rw [hK.slot 14 (by decide) (hd 14 (by kernel_rfl)) 51 rfl]
    rcases hK.got 14 (by decide) (hd 14 (by kernel_rfl)) with h | h
    ·cases h
    ·exact h
   have e51:ac.eval (.tmp 51)=_:=e51
   simp only [swV,List.getD_cons_succ,List.getD_cons_zero] at e51
   have e46:ac.eval (.tmp 46)=(swV g cap a b).getD 9 undef:=by
    show ac.tmps.getD 46 undef=_
    rw [hK.slot 9 (by decide) (hd 9 (by kernel_rfl)) 46 rfl]
    rcases hK.got 9 (by decide) (hd 9 (by kernel_rfl)) with h | h
    ·cases h
    ·exact h
   have e46:ac.eval (.tmp 46)=_:=e46
   simp only [swV,List.getD_cons_succ,List.getD_cons_zero] at e46
   refine free_store_elem (K:=4) (enc:=clL) aggCl clL_len4 (.tmp 51) (.tmp 46) rfl g 2 cap 1 4 rfl e51 a rfl e46 (hG.1 hdn) (by simp) ?_
   intro X' hO' hG'
   refine ⟨undef,rfl,⟨fun h=> ?_,fun _=>hO',?_⟩, .inl rfl,hj⟩
   ·simp at h
   ·exact ⟨hG'.os.trans hG.2.2.os,hG'.tape.trans hG.2.2.tape,hG'.output.trans hG.2.2.output,Nat.le_trans hG.2.2.size hG'.size,fun k hk hn=>(hG'.block k (Nat.lt_of_lt_of_le hk hG.2.2.size) hn).trans (hG.2.2.block k hk hn)⟩
 intro vs X dn hvl hPh _ hdn hG
 have hO2:=hG.2.1 (hdn 15 (by decide))
 have hv:∀i,i<15→vs.getD i undef=(swV g cap a b).getD i undef:=fun i hi=>by
  rcases hPh i (by omega) with h | h
  ·omega
  ·exact h
 have hvs:vs=swV g cap a b++[vs.getD 15 undef]:=by
  apply List.ext_getElem
  ·rw [hvl];rfl
  ·intro i h1 h2
   have hi:i<16:=by rw [hvl] at h1;exact h1
   by_cases h15:i<15
   ·have h3:=hv i h15
    rw [List.getD_eq_getElem?_getD,List.getElem?_eq_getElem h1,Option.getD_some] at h3
    rw [h3,List.getElem_append_left (by exact h15),List.getD_eq_getElem?_getD,List.getElem?_eq_getElem (by exact h15)];rfl
   ·obtain rfl:i=15:=by omega
    rw [List.getElem_append_right (by exact Nat.le_refl _)]
    rw [List.getElem_singleton,List.getD_eq_getElem?_getD,List.getElem?_eq_getElem h1];rfl
 generalize vs.getD 15 undef=v15 at hvs
 subst hvs
 clear hv hPh hvl hdn
 simp only [swV,List.cons_append,List.nil_append,setOpt,List.setIfInBounds_toArray,List.set_cons_succ,List.set_cons_zero,List.drop]
 have hgr:=hG.2.2
 clear hG
 go_step
 go_step
 go_step
 refine store_elem (C:=clA b) (enc:=clL) aggCl clL_len4 (.tmp 52) (.tmp 50) rfl rfl g 2 cap 0 0 rfl rfl b rfl rfl hO2 (by simp) ?_
 intro W5 hO5 hG5
 have hO6:OwnK 4 clL W5 base 65 (.slice (some ⟨g,0,none⟩) 2 cap) [b,a]:=hO5
 have hg6:w.grownBy W5 (some g):=by
  have h1:=Mem.grown_of_below hgW (some g)
  exact (h1.trans hgr).trans hG5
 clear hO2 hO5 hG5 hgr HOA
 go_wp2_with fail
 refine rounds_step (n:=0) ?_
 have hsz5:g<W5.heap.size:=(hO6.lt g rfl).2
 clear Hdf hneg hgW
 go_upto_region 4 with (fail)
 refine region_headsT (S:=fun X=>Below W5.heap.size W5 X) 16 rfl (by kernel_rfl) (Below.refl _ _).drew fun hS=> ?_
 refine tk 0 18 (.int .i64 0) hS ?_
 refine tk 1 19 (.int .i64 0) hS ?_
 refine tk 2 20 (.bool false) hS ?_
 refine tk 3 21 (.bool false) hS ?_
 refine tks 4 22 undef hS ?_
 refine tks 5 23 undef hS ?_
 refine tks 6 24 undef hS ?_
 refine tks 7 25 undef hS ?_
 refine tks 8 26 undef hS ?_
 refine tks 9 27 undef hS ?_
 refine tks 10 28 undef hS ?_
 refine tks 11 29 undef hS ?_
 refine tks 12 30 undef hS ?_
 refine tks 13 31 undef hS ?_
 refine tks 14 32 undef hS ?_
 refine tks 15 33 undef hS ?_
 refine headsT_tail (by kernel_rfl) ?_
 simp only [List.drop]
 go_wp2_with fail
 refine rounds_step (n:=0) ?_
 go_wp2_with fail
 go_end0
 have hB:=(Below.refl W5.heap.size W5).drew
 exact ⟨rfl,hO6.below hB (fun k e=>(hO6.lt k e).2),hg6.trans (Mem.grown_of_below hB (some g))⟩
end Go.Proofs.YtncnfncglacheaaGreatDoor
namespace Go.Proofs.YtncnfncglacheaaGreatDoor
open Go Go.RowKit Mem
set_option maxRecDepth 100000
set_option maxHeartbeats 16000000
theorem pdq2 (w:World) (base g cap:Nat) (a b:Cl) (lim:Int) (ho:OwnK 4 clL w base 65 (.slice (some ⟨g,0,none⟩) 2 cap) [a,b]) (hlt:b.least<a.least) (hT:Tab w) (htl:1<w.heap.size):
  Calls Tryz.prog 257 #[.slice (some ⟨g,0,none⟩) 2 cap, .int .i64 0, .int .i64 2, .int .i64 lim, .func (.func 226) #[] #[]] w fun e w'=>e= .returned (.tuple #[])∧OwnK 4 clL w' base 65 (.slice (some ⟨g,0,none⟩) 2 cap) [b,a]∧w.grownBy w' (some g):=by
 have HI0:=Lib.hid (insertion2 w base g cap a b ho hlt hT htl)
 clear ho hlt hT htl
 go_enter Tryz.func257,Tryz.ntmps257
 go_wp2_with fail
 refine wp_loop_rounds 1 ?_
 refine rounds_step (n:=0) ?_
 go_wp2_with fail
 refine HI0.out.mono ?_
 rintro e wI ⟨rfl,HI⟩
 go_wp2_with fail
 refine bodyPost_ret (results_none rfl _ _ _) rfl ?_
 exact ⟨rfl,HI⟩
theorem sort2 (w:World) (base g cap:Nat) (a b:Cl) (ho:OwnK 4 clL w base 65 (.slice (some ⟨g,0,none⟩) 2 cap) [a,b]) (hlt:b.least<a.least) (hT:Tab w) (htl:1<w.heap.size):
  Calls Tryz.prog 225 #[.slice (some ⟨g,0,none⟩) 2 cap, .func (.func 226) #[] #[]] w fun e w'=>e= .returned (.tuple #[])∧OwnK 4 clL w' base 65 (.slice (some ⟨g,0,none⟩) 2 cap) [b,a]∧w.grownBy w' (some g):=by
 have hl:=Lib.hid fun X=>(Tryz.bits_Len 2 X (by decide) (by decide))
 have HI0:=Lib.hid fun lim=>pdq2 w base g cap a b lim ho hlt hT htl
 clear ho hlt hT htl
 go_enter Tryz.func225,Tryz.ntmps225
 go_wp2_with fail
 refine (hl.out _).mono ?_
 rintro e _ ⟨rfl,rfl⟩
 go_wp2_with fail
 refine (HI0.out _).mono ?_
 rintro e wI ⟨rfl,HI⟩
 go_wp2_with fail
 go_end0
 exact ⟨rfl,HI⟩
end Go.Proofs.YtncnfncglacheaaGreatDoor
namespace Go.Proofs.YtncnfncglacheaaGreatDoor
open Go Go.RowKit Mem
set_option maxRecDepth 100000
set_option maxHeartbeats 16000000
def clFull:Cl:=⟨18446744073709551615,18446744073709551615,18446744073709551615,18446744073709551615⟩
theorem full_not:Cl.zip (fun x _=> ~~~x) ⟨0,0,0,0⟩ ⟨0,0,0,0⟩=clFull:=by decide+kernel
theorem all_and (x:UInt64):18446744073709551615 &&& x=x:=by
 apply UInt64.eq_of_toBitVec_eq
 simp only [UInt64.toBitVec_and]
 exact BitVec.allOnes_and
theorem full_and (x:Cl):Cl.zip (fun x y=>x &&& y) clFull x=x:=by
 unfold Cl.zip clFull
 simp only [all_and]
theorem full_minus (x:Cl):Cl.zip (fun x y=>x &&& ~~~y) clFull x=x.non:=by
 unfold Cl.zip clFull Cl.non
 simp only [all_and]
theorem clZ:clA ⟨0,0,0,0⟩= #[.int .u64 0, .int .u64 0, .int .u64 0, .int .u64 0]:=by kernel_rfl
section
variable {ops:Array Oper} {rest:List Oper} {o:Oper} {a:Act} {Q:Exit→Act→World→Prop} {w:World}
theorem neq_law (x y:Operand) (t:TypeId) (cx cy:Cl) (hne:cx≠cy) (hgd:o.guard=none) (ho:o.op= .binOp .neq 65 x y t) (hx:a.eval x= .agg (clA cx)) (hy:a.eval y= .agg (clA cy))
  (hk:wpList Tryz.prog ops Q rest (a.put o.dst (.bool true)) w):wpList Tryz.prog ops Q (o::rest) a w:=by
 refine closed_op hgd (fun W=> ?_) hk
 unfold execOp
 have hg:=run_eqGuard_agg (P:=Tryz.prog) W .neq 65 x y (clA cx) (clA cy) guardCl
 simp only [ho,hx,hy,Sem.run_bind,hg,clNe_yes W cx cy hne,Result.andThen_ok]
 rfl
end
theorem clCells1 (w:World) (g n:Nat) (c:Cl) (hA:At oV w g 0 (clL c)) (hg:g<w.heap.size) (h0:c≠⟨0,0,0,0⟩) (h1:c.non≠⟨0,0,0,0⟩) (hlt:c.non.least<c.least) (hT:Tab w) (htl:1<w.heap.size):
  Calls Tryz.prog 176 #[.slice (some ⟨g,0,none⟩) 1 n] w fun e w'=>∃p cap,e= .returned (.slice p 2 cap)∧OwnK 4 clL w' w.heap.size 65 (.slice p 2 cap) [c.non,c]∧Below w.heap.size w w':=by
 have HA:=Lib.hid hA
 have H0:=Lib.hid h0
 have H1:=Lib.hid h1
 have HL:=Lib.hid hlt
 have HT:=Lib.hid hT
 have Htl:=Lib.hid htl
 clear hA h0 h1 hlt hT htl
 go_enter Tryz.func176,Tryz.ntmps176
 go_wp2_with fail
 refine (clNot w ⟨0,0,0,0⟩).mono ?_
 rw [full_not]
 rintro e w1 ⟨rfl,hB1⟩
 go_wp2_with fail
 refine wp_loop_rounds 2 ?_
 have hr1:Row oV (w1.alloc (.cells (clA clFull) 65)) w1.heap.size 65 (clL clFull):=Row.new _ _ rfl
 have hb1:Below w.heap.size w (w1.alloc (.cells (clA clFull) 65)):=hB1.alloc hB1.size _
 have hz1:=hB1.size
 have hr1b:w.heap.size≤w1.heap.size:=hB1.size
 obtain ⟨W1,HW1⟩:∃W,Hid ((w1.alloc (.cells (clA clFull) 65))=W):=⟨_,Lib.hid rfl⟩
 rw [HW1.out] at hr1 hb1
 change Code.rounds _ _ _ _ _ (w1.alloc (.cells (clA clFull) 65))
 rw [HW1.out]
 clear hz1 hB1 HW1
 have hA1:=HA.out.below hb1 hg
 have hZ:Row oV (W1.alloc (.cells zCl 65)) W1.heap.size 65 [ow 0,ow 0,ow 0,ow 0]:=Row.new _ _ rfl
 refine rounds_step (n:=1) ?_
 go_wp2_with (first
  | ((with_reducible refine zL hA1 aggCl rfl (C:=clA c) ?_))
  | ((with_reducible refine zS (l':=clL c) hZ aggCl ?_);(intro W2 hr2 hG2 hz2);(refine Pause.back ?_)))
 have hb2:Below w.heap.size w W2:=(hb1.alloc hb1.size _).grown hG2 (by have:=hb1.size;simp;omega) (fun k e=>by injection e with e;rw [← e];exact hb1.size)
 have hr12:=(hr1.alloc (.cells zCl 65)).grown hG2 (fun e=>by injection e with e;have:=hr1.lt;omega)
 have hW12:W1.heap.size<W2.heap.size:=hr2.lt
 clear hr1 hZ hA1 hG2 hz2
 have hZ:Row oV (W2.alloc (.cells zCl 65)) W2.heap.size 65 [ow 0,ow 0,ow 0,ow 0]:=Row.new _ _ rfl
 have hr1L:=hr12.lt
 refine Pause.out ?_
 go_wp2_with fail
 refine wp_loop_rounds 2 ?_
 refine rounds_step (n:=1) ?_
 go_wp2_with (first
  | ((with_reducible refine zL hr12.at aggCl rfl (C:=clA clFull) ?_))
  | ((with_reducible refine zS (l':=clL clFull) hZ aggCl ?_);(intro W3 hr3 hG3 hz3);(refine Pause.back ?_)))
 have hb3:Below w.heap.size w W3:=(hb2.alloc hb2.size _).grown hG3 (by have:=hb2.size;simp;omega) (fun k e=>by injection e with e;rw [← e];exact hb2.size)
 have hr23:=(hr2.alloc (.cells zCl 65)).grown hG3 (fun e=>by injection e with e;omega)
 have hW23:W2.heap.size<W3.heap.size:=hr3.lt
 clear hr2 hr12 hZ hG3 hz3
 refine Pause.out ?_
 go_upto_region 9 with (fail)
 refine wp_region_held (S:=fun X=>Below W3.heap.size W3 X) rfl ?_
 have hS:=(Below.refl W3.heap.size W3).drew
 refine tkD 0 26 (.agg (clA clFull)) hS ?_ rfl (yieldsIf_load (f:=oV) (l:=clL clFull) aggCl (.tmp 8) rfl W2.heap.size 0 rfl (fun W' h=>(hr3.below h hr3.lt).at) rfl rfl)
 refine tkD 1 27 (.agg (clA c)) hS ?_ rfl (yieldsIf_load (f:=oV) (l:=clL c) aggCl (.tmp 5) rfl W1.heap.size 0 rfl (fun W' h=>(hr23.below h hr23.lt).at) rfl rfl)
 refine tkD 3 29 (.agg (clA clFull)) hS ?_ rfl (yieldsIf_load (f:=oV) (l:=clL clFull) aggCl (.tmp 8) rfl W2.heap.size 0 rfl (fun W' h=>(hr3.below h hr3.lt).at) rfl rfl)
 refine tkD 4 30 (.agg (clA c)) hS ?_ rfl (yieldsIf_load (f:=oV) (l:=clL c) aggCl (.tmp 5) rfl W1.heap.size 0 rfl (fun W' h=>(hr23.below h hr23.lt).at) rfl rfl)
 refine tkD 7 33 (.int .i64 0) hS ?_
 refine rdH 2 (fun K' hK=> ?_)
 refine cD 28 102 #[.agg (clA clFull), .agg (clA c)] ?_
 refine (clInter W3.drew clFull c).mono ?_
 rw [full_and]
 rintro e Wa ⟨rfl,hBa⟩
 have hSa:=hS.trans (hBa.mono hS.size)
 refine ⟨_,rfl,hK.out _ _ hSa fun _=> ?_⟩
 clear hK hBa hS
 have hS:=hSa
 simp only [sA,sB,sC]
 refine rdH 5 (fun K' hK=> ?_)
 refine cD 31 224 #[.agg (clA clFull), .agg (clA c)] ?_
 refine (clMinus Wa clFull c).mono ?_
 rw [full_minus]
 rintro e Wb ⟨rfl,hBb⟩
 have hSb:=hS.trans (hBb.mono hS.size)
 refine ⟨_,rfl,hK.out _ _ hSb fun _=> ?_⟩
 clear hK hBb hS hSa
 have hS:=hSb
 simp only [sA,sB,sC]
 refine tkD 6 32 (.agg #[.int .u64 (X c.a), .int .u64 (X c.b), .int .u64 (X c.c), .int .u64 (X c.d), .int .u64 (X (~~~c.a)), .int .u64 (X (~~~c.b)), .int .u64 (X (~~~c.c)), .int .u64 (X (~~~c.d))]) hS ?_
 refine wpAnyH_done (by kernel_rfl) ?_ _
 have hb4:=hb3.trans (hSb.mono hb3.size)
 have hz4:=hSb.size
 have hs3:=hb3.size
 clear hS hSb hr3 hr23 hW12 hr1L
 go_wp2_with fail
 refine wp_loop_rounds 3 ?_
 refine rounds_step (n:=2) ?_
 have hZ:Row oV (Wb.alloc (.cells zCl 65)) Wb.heap.size 65 [ow 0,ow 0,ow 0,ow 0]:=Row.new _ _ rfl
 have hC4:∀x:Cl,(clA x).size=4:=fun x=>rfl
 have hL4:=Nat.le_trans hs3 hz4
 go_wp2_with (first
  | ((with_reducible refine closed_at (u:= .agg (clA c)) (.index 332 (.tmp 32) (.tmp 33)) ?_ ?_ ?_ ?_);rfl;rfl;(intro w;kernel_rfl))
  | ((with_reducible refine zS (l':=clL c) hZ aggCl ?_);(intro W5 hr5 hG5 hz5);(refine Pause.back ?_)))
 have hb5:Below w.heap.size w W5:=(hb4.alloc hb4.size _).grown hG5 (by have:=hb4.size;simp;omega) (fun k e=>by injection e with e;rw [← e];exact hb4.size)
 have hz5':=hb5.size
 clear hZ hG5 hz5
 refine Pause.out ?_
 go_wp2_with (first
  | ((with_reducible refine zL hr5.at aggCl rfl (C:=clA c) ?_))
  | ((with_reducible refine neq_law (.tmp 36) (.tmp 37) 65 c ⟨0,0,0,0⟩ H0.out ?_ ?_ ?_ ?_ ?_);rfl;rfl;rfl;exact congrArg Value.agg clZ.symm)
  | (at_builtin;(with_reducible refine append_k eltKC (by decide) clL_len4 (.tmp 39) (.tmp 41) ?_ ?_ ?_ (OwnK.nil W5 w.heap.size 65) c _ ?_ _ ?_ ?_ ?_ ?_ [c] rfl ?_);rfl;rfl;rfl;rfl;rfl;(decide);(decide);(exact hz5');(intro p6 c6 W6 hK6 hB6 hG6;refine Pause.back ?_)))
 have hb6:Below w.heap.size w W6:=hb5.trans hB6
 clear hr5 hG6 hB6 hb5
 have hz6:=hb6.size
 obtain ⟨g6,e6,_,_⟩:=ownK_elem clL_len4 hK6 0 (by simp)
 subst e6
 have hZ:Row oV (W6.alloc (.cells zCl 65)) W6.heap.size 65 [ow 0,ow 0,ow 0,ow 0]:=Row.new _ _ rfl
 refine Pause.out ?_
 go_wp2_with fail
 refine rounds_step (n:=1) ?_
 go_wp2_with (first
  | ((with_reducible refine closed_at (u:= .agg (clA c.non)) (.index 332 (.tmp 32) (.tmp 33)) ?_ ?_ ?_ ?_);rfl;rfl;(intro w;kernel_rfl))
  | ((with_reducible refine zS (l':=clL c.non) hZ aggCl ?_);(intro W7 hr7 hG7 hz7);(refine Pause.back ?_)))
 have hb7:Below w.heap.size w W7:=(hb6.alloc hb6.size _).grown hG7 (by have:=hb6.size;simp;omega) (fun k e=>by injection e with e;rw [← e];exact hb6.size)
 have hK7:OwnK 4 clL W7 w.heap.size 65 (.slice (some ⟨g6,0,none⟩) [c].length c6) [c]:=(hK6.grown (World.grownBy_alloc W6 (.cells zCl 65) none) (fun _ _=>by simp)).grown hG7 (fun k hk e=>by injection e with e;have:=(hK6.lt k hk).2;omega)
 have hz7':=hb7.size
 clear hZ hG7 hz7 hK6
 refine Pause.out ?_
 go_wp2_with (first
  | ((with_reducible refine zL hr7.at aggCl rfl (C:=clA c.non) ?_))
  | ((with_reducible refine neq_law (.tmp 36) (.tmp 37) 65 c.non ⟨0,0,0,0⟩ H1.out ?_ ?_ ?_ ?_ ?_);rfl;rfl;rfl;exact congrArg Value.agg clZ.symm)
  | (at_builtin;(with_reducible refine append_k eltKC (by decide) clL_len4 (.tmp 39) (.tmp 41) ?_ ?_ ?_ hK7 c.non _ ?_ _ ?_ ?_ ?_ ?_ [c,c.non] rfl ?_);rfl;rfl;rfl;rfl;rfl;(simp);(simp);(exact hz7');(intro p8 c8 W8 hK8 hB8 hG8;refine Pause.back ?_)))
 have hb8:Below w.heap.size w W8:=hb7.trans hB8
 have htl8:1<W8.heap.size:=Nat.lt_of_lt_of_le Htl.out hb8.size
 have hT8:=HT.out.below hb8 Htl.out
 obtain ⟨g8,e8,_,_⟩:=ownK_elem clL_len4 hK8 0 (by simp)
 subst e8
 have HS:=Lib.hid (sort2 W8 w.heap.size g8 c8 c c.non hK8 HL.out hT8 htl8)
 have hg8:=(hK8.lt g8 rfl).1
 clear hr7 hG8 hB8 hb7 hK7 hK8 htl8 hT8
 refine Pause.out ?_
 go_wp2_with fail
 refine rounds_step (n:=0) ?_
 go_wp2_with fail
 refine rounds_step (n:=0) ?_
 go_wp2_with fail
 refine rounds_step (n:=0) ?_
 go_wp2_with fail
 refine HS.out.mono ?_
 rintro e W9 ⟨rfl,hK9,hG9⟩
 go_wp2_with fail
 go_ret
 exact ⟨_,_,rfl,hK9,hb8.grown hG9 hb8.size (fun k e=>by injection e with e;rw [← e];exact hg8)⟩
end Go.Proofs.YtncnfncglacheaaGreatDoor
namespace Go.Proofs.YtncnfncglacheaaGreatDoor
open Go Go.RowKit Mem
set_option maxRecDepth 100000
set_option maxHeartbeats 16000000
end Go.Proofs.YtncnfncglacheaaGreatDoor
