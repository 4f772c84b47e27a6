/- class.Bytes, class.Least. -/
import Derived.Test.YtncnfncglacheaaGreatDoorMHeldD
import Derived.Test.YtncnfncglacheaaGreatDoorMMemb
import Derived.Test.YtncnfncglacheaaGreatDoorMHeld
import Derived.Test.YtncnfncglacheaaGreatDoorMTree
import Derived.Shelf.Abstract
import Derived.Shelf.RegionOpen
namespace Go.Proofs.YtncnfncglacheaaGreatDoor
open Go Go.RowKit Go.Shelf Mem
attribute [local go_sem] Oper.semAt_some
set_option maxRecDepth 100000
def mbs (c:Cl):List UInt8:=(memN c 256).map UInt8.ofNat
theorem keepB_put {K:Nat} (W:World) (l:Nat) (o':Obj) (hl:K≤l):KeepB K W (W.putObj l o'):=
 ⟨by simp,fun r hr=>World.putObj_heap_other (by omega)⟩
theorem Mem.Own.grownN {α:Type} {f:α→Value} {w w':World} {base:Nat} {e:TypeId} {v:Value} {l:List α} (h:Mem.Own f w base e v l) {row:Option Nat} (hg:w.grownBy w' row)
  (hr:∀r,row=some r→∃o:Obj,w.heap[r]?=some o∧o.isCells=false):Mem.Own f w' base e v l:=by
 refine ⟨h.1,?_⟩
 rcases h.2 with hn | ⟨g,cap,cur,rfl,hbg,hc,rest⟩
 ·exact .inl hn
 ·refine .inr ⟨g,cap,cur,rfl,hbg,(hg.block g (Array.getElem?_eq_some_iff.1 hc).1 (fun e=> ?_)).trans hc,rest⟩
  obtain ⟨o,ho,hoc⟩:=hr g e.symm
  rw [hc] at ho;cases ho;cases hoc
set_option maxHeartbeats 4000000 in
theorem appendSeqB (w:World) (c:Cl) (cb:Nat) (hT:Tab w) (hc:Row oV w cb 65 (clL c)):
  Calls Tryz.prog 171 #[.slice none 0 0, .func (.func 172) #[] #[.pointer (some ⟨cb,0,none⟩)]] w fun e w'=>∃v,e= .returned v∧Mem.Own u8V w' w.heap.size 5 v (mbs c)∧Below w.heap.size w w':=by
 have hseq:=Lib.hid (fun (W:World) (hb:Below w.heap.size w W)=>membSeq 4 (by omega) w.heap.size c cb W (hT.below hb hT.lt) (hc.below hb hc.lt) hT.lt hc.lt hb.size)
 clear hT hc
 refine (callsIn_wide (n:=5)).1 ?_
 refine callsIn_of_wp_marks Tryz.func171 rfl trivial ?_ rfl
 simp only [Tryz.ntmps171,List.size_toArray,List.length_cons,List.length_nil,Nat.reduceAdd,Nat.reduceSub,Array.replicate_succ,Array.replicate_zero,List.push_toArray,List.append_toArray,List.nil_append,List.cons_append]
 gi_wp2_with fail
 have hv0:(w.alloc (.cells #[.slice none 0 0] 22)).heap[w.heap.size]?=some (.cells #[.slice none 0 0] 22 (0,0)):=World.alloc_heap_new _ _
 have hb0:Below w.heap.size w (w.alloc (.cells #[.slice none 0 0] 22)):=(Below.refl _ _).alloc (Nat.le_refl _) _
 have hs0:(w.alloc (.cells #[.slice none 0 0] 22)).heap.size=w.heap.size+1:=World.size_alloc _ _
 generalize w.alloc (.cells #[.slice none 0 0] 22)=wl at *
 refine rangeQ rfl (by omega) (gf:=172) (lb:= #[.pointer (some ⟨cb,0,none⟩)]) rfl trivial (enters_of Tryz.func172 (by kernel_rfl) rfl) (hseq.out _ hb0) keepB_t (fun W l o o' hl h _ _=>keepB_put W l o' (by omega)) (fun _ _ _ _ _ _ h _ _=>h) (Below.refl _ _) (fun _=>rfl)
  (fun pre W=>∃v,W.heap[w.heap.size]?=some (.cells #[v] 22 (0,0))∧Mem.Own u8V W (w.heap.size+1) 5 v (pre.map UInt8.ofNat)∧Below w.heap.size w W∧w.heap.size+1≤W.heap.size) (fun _ _ _=>False)
  ?hI (fun _ _ _ _ _ h _ _=>h) ?hIb (fun _ _ _ _ h _=>h) ⟨_,hv0,Mem.Own.nil _ _ _,hb0,by omega⟩
  (fun x=>{tmps:= #[.slice none 0 0, .func (.func 172) #[] #[.pointer (some ⟨cb,0,none⟩)], .pointer (some ⟨w.heap.size,0,none⟩),undef, .slice none 0 0, .int .u8 (x:Int), .func (.func 172) #[] #[.pointer (some ⟨cb,0,none⟩)], .int .u8 (x:Int),undef,undef,undef,undef,undef],defers:=[]})
  ?assign ?body ?done ?stop
 case hI=>
  rintro pre A B row ⟨v,h1,h2,h3,h4⟩ hgr hrow
  refine ⟨v,(hgr.block _ (by omega) (fun e=>by have:=(hrow _ e.symm).1;omega)).trans h1,h2.grownN hgr (fun r e=>(hrow r e).2),h3.grown hgr h3.size (fun k e=>by have:=(hrow _ e).1;omega),Nat.le_trans h4 hgr.size⟩
 case hIb=>
  rintro pre A B ⟨v,h1,h2,h3,h4⟩ hb
  refine ⟨v,(hb.block _ (Array.getElem?_eq_some_iff.1 h1).1).trans h1,h2.below' hb,h3.trans (hb.mono h3.size),Nat.le_trans h4 hb.size⟩
 case assign=>
  intro l x W K hK
  gi_wp2
  exact hK
 case body=>
  rintro l pre x W ⟨v,hcv0,hO,hB,hs⟩ ⟨hx,hpre⟩
  obtain ⟨b,rfl⟩:∃b:UInt8,x=b.toNat:=⟨UInt8.ofNat x,(UInt8.toNat_ofNat_of_lt' hx).symm⟩
  have hpl:(pre.map UInt8.ofNat).length≤256:=by
   have:=hpre.length_le
   rw [List.length_append] at this
   have:=memN_len c 256
   rw [List.length_map];omega
  have HM:Hid ((pre++[b.toNat]).map UInt8.ofNat=pre.map UInt8.ofNat++[b]):=Lib.hid (by simp)
  generalize pre.map UInt8.ofNat=ps at hpl hO HM
  clear hpre hx
  have hcv:=cell_var hcv0
  have hfv:=frozen_var hcv0
  obtain ⟨p,cap,rfl⟩:=hO.slice
  gi_wp2_with (gi_at_builtin;(with_reducible refine append_one_in elt8 (.tmp 8) (.tmp 10) ?_ ?_ u8V_one ?_ hO b _ ?_ _ ?_ ?_ ?_ ?_ (ps++[b]) ?_ ?_);rfl;rfl;rfl;rfl;rfl;omega;omega;exact hs;rfl;intro p2 c2 w3 hO2 hB2 hG2;have hc3:=(hG2.block w.heap.size (by simp;omega) (fun e=>by have:=hO.lt w.heap.size e.symm;omega)).trans ((Below.heap_alloc _ _ _ (by omega)).trans hcv0);have hcv3:=cell_var hc3;have hfv3:=frozen_var hc3)
  rw [List.length_append,List.length_singleton] at hO2
  have hown:∀(j:Nat) (o:Obj),(Value.slice p ps.length cap).ownBlock=some j→(W.alloc (Obj.cells #[Value.int IntKind.u8 (b.toNat:Int)] 5)).heap[j]?=some o→o.isCells=true:=by
   intro j o ej hj
   rcases hO.2 with ⟨hq,_⟩ | ⟨g,cap',cur,hv,hg,hgc,_⟩
   ·rw [hq] at ej;cases ej
   ·rw [hv] at ej;cases ej
    rw [Below.heap_alloc _ _ _ (Array.getElem?_eq_some_iff.1 hgc).1,hgc] at hj
    cases hj;rfl
  have hBB:Below w.heap.size W (w3.setCell ⟨w.heap.size,0,none⟩ (Value.slice p2 (ps.length+1) c2)):=Below.setCell (hB2.mono (B':=w.heap.size) (by omega)) (p:=⟨w.heap.size,0,none⟩) (Nat.le_refl _) _
  refine ⟨((KeepsOthers.alloc W _).trans (KeepsOthers.of_grownBy hG2 hown)).trans (KeepsOthers.setCell _ _ _),⟨hBB.size,fun r hr=>hBB.block r (by omega)⟩,_,set_var hc3 _,?_,hB.trans hBB,Nat.le_trans hs hBB.size⟩
  rw [HM.out]
  exact own_set_var hO2 (Nat.lt_succ_self _) _
 case done=>
  rintro D xs W hD rfl ⟨v,hc,hO,hB,hs⟩ hKD
  have hcv:=cell_var hc
  gi_wp2
  refine ⟨by simp, .inl ⟨_,_,rfl,run_takeDeferred hKD,?_⟩⟩
  refine ⟨v,by simp [results,Tryz.results171,go_sem],v,rfl,?_,?_⟩
  ·exact (hO.grownN (grownBy_putObj' W D (.deferred none)) (fun r e=>by cases e;exact ⟨_,hKD,rfl⟩)).mono (Nat.le_succ _)
  ·exact hB.grown (grownBy_putObj' W D (.deferred none)) hB.size (fun k e=>by cases e;omega)
 case stop=>
  intro D c' pre W _ _ h _
  exact h.elim
theorem collectB (w:World) (c:Cl) (cb:Nat) (hT:Tab w) (hc:Row oV w cb 65 (clL c)):
  Calls Tryz.prog 130 #[.func (.func 172) #[] #[.pointer (some ⟨cb,0,none⟩)]] w fun e w'=>∃v,e= .returned v∧Mem.Own u8V w' w.heap.size 5 v (mbs c)∧Below w.heap.size w w':=by
 have H:=Lib.hid (appendSeqB w c cb hT hc)
 clear hT hc
 go_enter Tryz.func130,Tryz.ntmps130
 go_wp2_with fail
 refine H.out.mono ?_
 rintro e w1 ⟨v,rfl,hO,hB⟩
 go_wp2
 go_ret
 exact ⟨v,rfl,hO,hB⟩
theorem members (w:World) (c:Cl):Calls Tryz.prog 131 #[.agg (clA c)] w fun e w'=>e= .returned (.func (.func 172) #[] #[.pointer (some ⟨w.heap.size,0,none⟩)])∧(w.alloc (.cells (clA c) 65))=w':=by
 go_enter Tryz.func131,Tryz.ntmps131
 go_wp2
 go_ret
 exact ⟨rfl,rfl⟩
theorem clBytes (w:World) (c:Cl) (hT:Tab w):Calls Tryz.prog 97 #[.agg (clA c)] w fun e w'=>∃v,e= .returned v∧Mem.Own u8V w' w.heap.size 5 v (mbs c)∧Below w.heap.size w w':=by
 have hrow:Row oV (w.alloc (.cells (clA c) 65)) w.heap.size 65 (clL c):=Row.new _ _ rfl
 have hB:Below w.heap.size w (w.alloc (.cells (clA c) 65)):=(Below.refl _ _).alloc (Nat.le_refl _) _
 go_enter Tryz.func97,Tryz.ntmps97
 go_upto_region 1 with (fail)
 generalize (w.alloc (.cells (clA c) 65))=W at hrow hB ⊢
 go_wp2_with ((with_reducible refine zL hrow.at aggCl rfl (C:=clA c) ?_))
 refine (members W c).mono ?_
 rintro e W2 ⟨rfl,hW2⟩
 have hB2:Below w.heap.size w W2:=by rw [← hW2];exact below_al hB (Nat.le_refl _) _
 have hr2:Row oV W2 W.heap.size 65 (clL c):=by rw [← hW2];exact Row.new _ _ rfl
 clear hW2 hB hrow
 generalize W.heap.size=wb at hr2 ⊢
 clear W
 go_wp2_with fail
 refine (collectB W2 c wb (hT.below hB2 hT.lt) hr2).mono ?_
 rintro e W3 ⟨v,rfl,hO,hB3⟩
 go_wp2
 go_ret
 exact ⟨v,rfl,hO.mono hB2.size,hB2.trans (hB3.mono hB2.size)⟩
def Cl.least (c:Cl):Int:=match memN c 256 with | []=> -1 | x::_=>(x:Int)
set_option maxHeartbeats 4000000 in
theorem clLeast (w:World) (c:Cl) (hT:Tab w):Calls Tryz.prog 178 #[.agg (clA c)] w fun e w'=>e= .returned (.int .i64 c.least)∧Below w.heap.size w w':=by
 refine (callsIn_wide (n:=5)).1 ?_
 refine callsIn_of_wp_marks Tryz.func178 rfl trivial ?_ rfl
 simp only [Tryz.ntmps178,List.size_toArray,List.length_cons,List.length_nil,Nat.reduceAdd,Nat.reduceSub,Array.replicate_succ,Array.replicate_zero,List.push_toArray,List.append_toArray,List.nil_append,List.cons_append]
 gi_wp2_with fail
 refine ⟨trivial,?_⟩
 refine (callsIn_wide.2 (members _ c)).mono ?_
 rintro e W2 ⟨rfl,hW2⟩
 have hs2:W2.heap.size=w.heap.size+3:=by rw [← hW2];simp
 have hB2:Below w.heap.size w W2:=by rw [← hW2];exact below_al (below_al (below_al (Below.refl _ _) (Nat.le_refl _) _) (Nat.le_refl _) _) (Nat.le_refl _) _
 have hr2:Row oV W2 (w.heap.size+2) 65 (clL c):=by
  rw [← hW2]
  have h:=World.alloc_heap_new ((w.alloc (.cells (clA c) 65)).alloc (.cells #[.int .i64 0] 3)) (.cells (clA c) 65)
  simp only [World.size_alloc] at h
  exact h
 have hv2:Row oV W2 (w.heap.size+1) 3 [oi 0]:=by
  rw [← hW2]
  refine (Below.heap_alloc _ _ _ (by simp)).trans ?_
  have h:=World.alloc_heap_new (w.alloc (.cells (clA c) 65)) (.cells #[.int .i64 0] 3)
  simp only [World.size_alloc] at h
  exact h
 have hwb:((w.alloc (.cells (clA c) 65)).alloc (.cells #[.int .i64 0] 3)).heap.size=w.heap.size+2:=by simp
 rw [hwb]
 clear hW2 hwb
 have hseq:=membSeq 4 (by omega) W2.heap.size c (w.heap.size+2) W2 (hT.below hB2 hT.lt) hr2 (by have:=hT.lt;omega) (by omega) (Nat.le_refl _)
 clear hT hr2
 generalize hn0:w.heap.size=n0 at *
 gi_wp2_with fail
 refine rangeQ rfl (by omega) (gf:=172) (lb:= #[.pointer (some ⟨n0+2,0,none⟩)]) rfl trivial (enters_of Tryz.func172 (by kernel_rfl) rfl) hseq keepB_t (fun W l o o' hl h _ _=>keepB_put W l o' (by omega)) (fun _ _ _ _ _ _ h _ _=>h) (Below.refl _ _) (fun _=>rfl)
  (fun pre W=>pre=[]∧Row oV W (n0+1) 3 [oi 0]∧Below n0 w W∧n0+3≤W.heap.size) (fun cc pre W=>cc= .ret∧∃x:Nat,pre=[x]∧Row oV W (n0+1) 3 [oi x]∧Below n0 w W∧n0+3≤W.heap.size)
  ?hI ?hIx ?hIb ?hIxb ⟨rfl,hv2,hB2,by omega⟩
  (fun x=>{tmps:= #[.agg (clA c), .pointer (some ⟨n0,0,none⟩), .pointer (some ⟨n0+1,0,none⟩), .int .u8 (x:Int), .agg (clA c), .func (.func 172) #[] #[.pointer (some ⟨n0+2,0,none⟩)], .int .u8 (x:Int),undef,undef],defers:=[]})
  ?assign ?body ?done ?stop
 case hI=>
  rintro pre A B row ⟨h0,h1,h2,h3⟩ hgr hrow
  have hne:∀b,b<n0+3→some b≠row:=fun b hb e=>by have:=(hrow _ e.symm).1;omega
  exact ⟨h0,h1.grown hgr (hne _ (by omega)),h2.grown hgr (by omega) (fun k e=>by have:=(hrow _ e).1;omega),Nat.le_trans h3 hgr.size⟩
 case hIx=>
  rintro cc pre A B row ⟨h0,x,h0',h1,h2,h3⟩ hgr hrow
  have hne:∀b,b<n0+3→some b≠row:=fun b hb e=>by have:=(hrow _ e.symm).1;omega
  exact ⟨h0,x,h0',h1.grown hgr (hne _ (by omega)),h2.grown hgr (by omega) (fun k e=>by have:=(hrow _ e).1;omega),Nat.le_trans h3 hgr.size⟩
 case hIb=>
  rintro pre A B ⟨h0,h1,h2,h3⟩ hb
  exact ⟨h0,h1.below hb h1.lt,h2.trans (hb.mono (by omega)),Nat.le_trans h3 hb.size⟩
 case hIxb=>
  rintro cc pre A B ⟨h0,x,h0',h1,h2,h3⟩ hb
  exact ⟨h0,x,h0',h1.below hb h1.lt,h2.trans (hb.mono (by omega)),Nat.le_trans h3 hb.size⟩
 case assign=>
  intro l x W K hK
  gi_wp2
  exact hK
 case body=>
  rintro l pre x W ⟨rfl,h1,h2,h3⟩ ⟨hx,_⟩
  have cr:W.cell? ⟨n0+1,0,none⟩=some (.int .i64 0):=by rw [h1.cell?];rfl
  have fr:=h1.frozen 0
  gi_wp2
  exact ⟨KeepsOthers.setCell _ _ _,rfl,x,rfl,h1.set 0 (oi x),below_set h2 0 (by omega) _,by simpa using h3⟩
 case done=>
  rintro D xs W hD hxs ⟨rfl,h1,h2,h3⟩ hKD
  have cr:W.cell? ⟨n0+1,0,none⟩=some (.int .i64 0):=by rw [h1.cell?];rfl
  have fr:=h1.frozen 0
  have hl:c.least= -1:=by unfold Cl.least;rw [← hxs]
  gi_wp2
  have h1':=h1.set 0 (oi (-1))
  have h2':=below_set h2 (b:=n0+1) 0 (by omega) (.int .i64 (-1))
  have hKD':(W.setCell ⟨n0+1,0,none⟩ (.int .i64 (-1))).heap[D]?=some (.deferred (some [])):=(Below.heap_setCell _ _ _ _ (by show D≠n0+1;omega)).trans hKD
  replace h1':Row oV (W.setCell ⟨n0+1,0,none⟩ (.int .i64 (-1))) (n0+1) 3 [oi (-1)]:=h1'
  generalize W.setCell ⟨n0+1,0,none⟩ (.int .i64 (-1))=W5 at *
  have hcr:(W5.putObj D (.deferred none)).cell? ⟨n0+1,0,none⟩=some (.int .i64 (-1)):=(World.cell?_of_block (a:=⟨n0+1,0,none⟩) (World.putObj_heap_other (by show n0+1≠D;omega))).trans (by rw [h1'.cell?];rfl)
  refine ⟨by simp, .inl ⟨_,_,rfl,run_takeDeferred hKD',?_⟩⟩
  refine ⟨_,by simp [results,Tryz.results178,go_sem,hcr];rfl,by rw [hl],?_⟩
  rw [hn0]
  exact h2'.grown (grownBy_putObj' W5 D (.deferred none)) (by have:=h2'.size;omega) (fun k e=>by cases e;omega)
 case stop=>
  rintro D cc pre W hD ⟨hp,_⟩ ⟨rfl,x,rfl,h1,h2,h3⟩ hKD
  have hl:c.least=x:=by
   unfold Cl.least
   obtain ⟨t,ht⟩:=hp
   rw [← ht]
   rfl
  gi_wp2
  have hcr:(W.putObj D (.deferred none)).cell? ⟨n0+1,0,none⟩=some (.int .i64 x):=(World.cell?_of_block (a:=⟨n0+1,0,none⟩) (World.putObj_heap_other (by show n0+1≠D;omega))).trans (by rw [h1.cell?];rfl)
  refine ⟨by simp, .inl ⟨_,_,rfl,run_takeDeferred hKD,?_⟩⟩
  refine ⟨_,by simp [results,Tryz.results178,go_sem,hcr];rfl,by rw [hl],?_⟩
  rw [hn0]
  exact h2.grown (grownBy_putObj' W D (.deferred none)) (by have:=h2.size;omega) (fun k e=>by cases e;omega)
end Go.Proofs.YtncnfncglacheaaGreatDoor
