/- automaton's reached. -/
import Derived.Test.YtncnfncglacheaaGreatDoorMDfM
import Derived.Test.YtncnfncglacheaaGreatDoorMMembC
import Derived.WalkKit
import Derived.Test.YtncnfncglacheaaGreatDoorMHeldD
import Derived.Test.YtncnfncglacheaaGreatDoorMKeys
import Derived.Test.YtncnfncglacheaaGreatDoorMMemb
import Derived.WideMake
import Derived.Test.YtncnfncglacheaaGreatDoorMHeld
namespace Go.Proofs.YtncnfncglacheaaGreatDoor
open Go Go.RowKit Mem
set_option maxRecDepth 100000
section
variable {P:Program} {ops:Array Oper} {rest:List Oper} {o:Oper} {a:Act} {w:World} {Q:Exit→Act→World→Prop}
theorem alloc_big {t:TypeId} (Z:Array Value) (hz:∀w,(zeroValue t).run P w= .ok (.agg Z) w) (hg:o.guard=none) (ho:o.op= .alloc t) (N:Nat) (hN:w.heap.size=N)
  (hk:wpList P ops Q rest (a.put o.dst (.pointer (some ⟨N,0,none⟩))) (w.alloc (.cells Z t))):wpList P ops Q (o::rest) a w:=by
 subst hN
 refine wpList_plain hg fun K hK=> ?_
 unfold Oper.wp
 simp [execOp,ho,Instr.alloc,hz,newVar,Value.cells,Result.andThen]
 exact hK _ _ hk
end
def tbL (T:TB) (vn va:OC):List OC:=T.cell.map (fun n:Nat=>oi (n:Int))++[oi (T.cells:Int),vn,va]
theorem tbL_cell {T:TB} (vn va:OC) {b:Nat} (hb:b<T.cell.length):(tbL T vn va)[b]?=some (oi (T.cell.getD b 0:Nat)):=by
 unfold tbL
 rw [List.getElem?_append_left (by rw [List.length_map];exact hb),List.getElem?_map,List.getElem?_eq_getElem hb,List.getD_eq_getElem?_getD,List.getElem?_eq_getElem hb];rfl
theorem tbL_hi {T:TB} (vn va:OC) (h:T.cell.length=256) (i:Nat):(tbL T vn va)[256+i]?=[oi (T.cells:Int),vn,va][i]?:=by
 unfold tbL
 rw [List.getElem?_append_right (by rw [List.length_map];omega),List.length_map,h]
 congr 1;omega
theorem tbL_set (T:TB) (vn va:OC) (b k:Nat) (hb:b<T.cell.length):(tbL T vn va).set b (oi (k:Int))=tbL {T with cell:=T.cell.set b k} vn va:=by
 unfold tbL
 rw [List.set_append_left _ _ (by rw [List.length_map];exact hb),← List.map_set]
theorem tbL_length {T:TB} (vn va:OC) (h:T.cell.length=256):(tbL T vn va).length=259:=by
 unfold tbL;rw [List.length_append,List.length_map,h];rfl
def TbAt (w:World) (C:Array Value) (T:TB):Prop:=∃vn va:OC,C=((tbL T vn va).map oV).toArray∧RdNN w vn.1 T.nx∧Rd Value.bool w va.1 T.ac∧T.cell.length=256
theorem TbAt.below {w w':World} {C:Array Value} {T:TB} (h:TbAt w C T) (hb:Below w.heap.size w w'):TbAt w' C T:=by
 obtain ⟨vn,va,rfl,h1,h2,h3⟩:=h
 exact ⟨vn,va,rfl,RdNN.below' h1 hb,h2.below hb,h3⟩
theorem aggTb:AggT Tryz.prog 166 259:=⟨fun _=>by kernel_rfl,fun _=>by kernel_rfl⟩
def zTb:Array Value:=((tbL ⟨List.replicate 256 0,0,[],[]⟩ on on).map oV).toArray
theorem zeroTb (w:World):(zeroValue 166).run Tryz.prog w= .ok (.agg zTb) w:=by kernel_rfl
end Go.Proofs.YtncnfncglacheaaGreatDoor
namespace Go.Proofs.YtncnfncglacheaaGreatDoor
open Go Go.RowKit Mem
set_option maxRecDepth 100000
set_option maxHeartbeats 8000000 in
theorem dTableT (w:World) (vc:Value) (un ua:OC) (D:DF) (hv:DfAt w (.agg #[vc,un.1,ua.1]) D) (hm:D.cls.length≤256) (hT:Tab w):Calls Tryz.prog 70 #[.agg #[vc,un.1,ua.1]] w fun e w'=>e= .returned (.agg ((tbL (tabOf D) un ua).map oV).toArray)∧Below w.heap.size w w':=by
 obtain ⟨vn,hvn⟩:=un
 obtain ⟨va,hva⟩:=ua
 obtain ⟨vc',vn',va',heq,h1,h2,h3⟩:=hv
 simp only [Value.agg.injEq,Array.mk.injEq,List.cons.injEq,and_true] at heq
 obtain ⟨rfl,rfl,rfl⟩:=heq
 obtain ⟨pc,kc,rfl⟩:=h1.slice
 obtain ⟨pn,kn,rfl⟩:=h2.slice
 obtain ⟨pa,ka,rfl⟩:=h3.slice
 have HC:=Lib.hid h1
 have HN:=Lib.hid h2
 have HA:=Lib.hid h3
 have HT:=Lib.hid hT
 obtain ⟨m,Hm⟩:∃n,Hid (D.cls.length=n):=⟨_,Lib.hid rfl⟩
 rw [Hm.out] at HC hm ⊢
 generalize D.nx.length=n1 at *
 generalize D.ac.length=n2 at *
 clear h1 h2 h3 hT
 have hD0:Row oV (w.alloc (.cells #[.slice pc m kc, .slice pn n1 kn, .slice pa n2 ka] 79)) w.heap.size 79 [⟨.slice pc m kc,rfl⟩,⟨.slice pn n1 kn,rfl⟩,⟨.slice pa n2 ka,rfl⟩]:=Row.new _ _ rfl
 have hB0:Below w.heap.size w (w.alloc (.cells #[.slice pc m kc, .slice pn n1 kn, .slice pa n2 ka] 79)):=(Below.refl _ _).alloc (Nat.le_refl _) _
 have hS0:(w.alloc (.cells #[.slice pc m kc, .slice pn n1 kn, .slice pa n2 ka] 79)).heap.size=w.heap.size+1:=World.size_alloc _ _
 go_enter Tryz.func70,Tryz.ntmps70
 go_upto_region 1 with ((with_reducible refine alloc_big (t:=166) zTb zeroTb ?_ ?_ (w.heap.size+1) ?_ ?_);rfl;rfl;exact hS0)
 have hD1:=hD0.alloc (.cells zTb 166)
 have hB1:=below_al hB0 (Nat.le_refl _) (.cells zTb 166)
 have hS1:((w.alloc (.cells #[.slice pc m kc, .slice pn n1 kn, .slice pa n2 ka] 79)).alloc (.cells zTb 166)).heap.size=w.heap.size+2:=by rw [World.size_alloc,hS0]
 have hZ1:Row oV ((w.alloc (.cells #[.slice pc m kc, .slice pn n1 kn, .slice pa n2 ka] 79)).alloc (.cells zTb 166)) (w.heap.size+1) 166 (tbL ⟨List.replicate 256 0,0,[],[]⟩ on on):=by
  have h:Row oV ((w.alloc (.cells #[.slice pc m kc, .slice pn n1 kn, .slice pa n2 ka] 79)).alloc (.cells zTb 166)) (w.alloc (.cells #[.slice pc m kc, .slice pn n1 kn, .slice pa n2 ka] 79)).heap.size 166 (tbL ⟨List.replicate 256 0,0,[],[]⟩ on on):=Row.new _ _ rfl
  rw [hS0] at h
  exact h
 generalize ((w.alloc (.cells #[.slice pc m kc, .slice pn n1 kn, .slice pa n2 ka] 79)).alloc (.cells zTb 166))=W at hD1 hB1 hS1 hZ1 ⊢
 clear hD0 hB0 hS0
 have c0:W.cell? ⟨w.heap.size,0,none⟩=some (.slice pc m kc):=by rw [hD1.cell?];rfl
 have c1:W.cell? ⟨w.heap.size,1,none⟩=some (.slice pn n1 kn):=by rw [hD1.cell?];rfl
 have c2:W.cell? ⟨w.heap.size,2,none⟩=some (.slice pa n2 ka):=by rw [hD1.cell?];rfl
 obtain ⟨C0,HC0⟩:∃C,Hid (C=((tbL ⟨List.replicate 256 0,m,[],[]⟩ ⟨.slice pn n1 kn,rfl⟩ ⟨.slice pa n2 ka,rfl⟩).map oV).toArray):=⟨_,Lib.hid rfl⟩
 have hbu:((Tryz.zeroCells166.setIfInBounds 256 (.int .i64 (m:Int))).setIfInBounds 257 (.slice pn n1 kn)).setIfInBounds 258 (.slice pa n2 ka)=C0:=by rw [HC0.out];kernel_rfl
 have hZ2:Row oV (W.alloc (.cells zTb 166)) (w.heap.size+2) 166 (tbL ⟨List.replicate 256 0,0,[],[]⟩ on on):=by
  have h:Row oV (W.alloc (.cells zTb 166)) W.heap.size 166 (tbL ⟨List.replicate 256 0,0,[],[]⟩ on on):=Row.new _ _ rfl
  rw [hS1] at h
  exact h
 have hB2:=below_al hB1 (Nat.le_refl _) (.cells zTb 166)
 have hD2:=hD1.alloc (.cells zTb 166)
 have hR2:=hZ1.alloc (.cells zTb 166)
 have hS2:(W.alloc (.cells zTb 166)).heap.size=w.heap.size+3:=by rw [World.size_alloc,hS1]
 have hAT:AggT Tryz.prog 166 (tbL ⟨List.replicate 256 0,m,[],[]⟩ ⟨.slice pn n1 kn,rfl⟩ ⟨.slice pa n2 ka,rfl⟩).length:=by rw [tbL_length _ _ (by simp)];exact aggTb
 have hLT:(tbL ⟨List.replicate 256 0,m,[],[]⟩ ⟨.slice pn n1 kn,rfl⟩ ⟨.slice pa n2 ka,rfl⟩).length=(tbL ⟨List.replicate 256 0,0,[],[]⟩ on on).length:=by rw [tbL_length _ _ (by simp),tbL_length _ _ (by simp)]
 go_upto_region 2 with (first
  | ((with_reducible refine alloc_big (t:=166) zTb zeroTb ?_ ?_ (w.heap.size+2) ?_ ?_);rfl;rfl;exact hS1)
  | ((with_reducible refine store_agg (f:=oV) (l:=tbL ⟨List.replicate 256 0,0,[],[]⟩ on on) (l':=tbL ⟨List.replicate 256 0,m,[],[]⟩ ⟨.slice pn n1 kn,rfl⟩ ⟨.slice pa n2 ka,rfl⟩) (t:=166) (C:=C0) hAT (.tmp 3) (.tmp 15) ?_ ?_ (w.heap.size+2) ?_ HC0.out ?_ hZ2 hLT oV_one ?_);rfl;rfl;rfl;(first | rfl | exact congrArg Value.agg hbu);(intro W6 hs6 hG6 hz6)))
 have hB6:=hB2.grown hG6 (by omega) (fun k e=>by cases e;omega)
 have hD6:=hD2.grown hG6 (by simp)
 have hR6:=hR2.grown hG6 (by simp)
 have hs6':=hz6.trans hS2
 clear hZ1 hD1 hB1 hS1 hZ2 hB2 hD2 hR2 hS2 hG6 hz6 hAT hLT hbu c0 c1 c2
 clear W
 have e0:W6.cell? ⟨w.heap.size,0,none⟩=some (.slice pc m kc):=by rw [hD6.cell?];rfl
 clear hD6
 obtain ⟨db,Hdb⟩:∃db,Hid (w.heap.size=db):=⟨_,Lib.hid rfl⟩
 rw [Hdb.out] at hs6 hB6 hR6 hs6' e0 ⊢
 go_wp2_with fail
 clear e0
 go_loopw [19] (fun i wr=>∃k:Nat,k≤m∧i= .int .i64 k∧Row oV wr (db+2) 166 (tbL ⟨cellK D.cls k,m,[],[]⟩ ⟨.slice pn n1 kn,rfl⟩ ⟨.slice pa n2 ka,rfl⟩)∧Row oV wr (db+1) 166 (tbL ⟨List.replicate 256 0,0,[],[]⟩ on on)∧Below db w wr∧db+3≤wr.heap.size) (fun i _=>m - (intOf i).toNat)
 case atStart=>exact ⟨0,by omega,rfl,hs6,hR6,hB6,by omega⟩
 case round=>
  clear hs6 hR6 hB6 hs6'
  obtain ⟨k,hk,rfl,hs,hR,hB,hz⟩:=hrel
  by_cases hlt:k<m
  ·have hq:(k:Int)<(m:Int):=by omega
   have hkl:k<D.cls.length:=by rw [Hm.out];exact hlt
   have hW1:Below w.heap.size w wr:=by rw [Hdb.out];exact hB
   obtain ⟨cb,co,rfl,hAt,_,hcl⟩:=HC.out.elem k hkl
   have hA:=hAt.below hW1 hcl
   have hTw:=HT.out.below hW1 HT.out.lt
   have HKS:Hid (cellK D.cls (k+1)=setAll k (memL D.cls[k]) (cellK D.cls k)):=Lib.hid (by rw [cellK,List.getD_eq_getElem?_getD,List.getElem?_eq_getElem hkl];rfl)
   generalize D.cls[k]=c at *
   have HCL:=Lib.hid (cellK_length D.cls k)
   have hzz:Row oV (wr.alloc (.cells zCl 65)) wr.heap.size 65 [ow 0,ow 0,ow 0,ow 0]:=Row.new _ _ rfl
   have hBx:=below_al hB (Nat.le_of_eq Hdb.out.symm) (.cells zCl 65)
   have hsx:=hs.alloc (.cells zCl 65)
   have hRx:=hR.alloc (.cells zCl 65)
   have hzx:db+3≤(wr.alloc (.cells zCl 65)).heap.size:=by rw [World.size_alloc];omega
   go_upto_region 5 with (first
    | ((with_reducible refine zL hA aggCl rfl (C:=clA c) ?_))
    | ((with_reducible refine zS (l':=clL c) hzz aggCl ?_);(intro W7 hs7 hG7 hz7)))
   have hB7:=hBx.grown hG7 (by have:=hBx.size;omega) (fun k e=>by cases e;have:=hB.size;omega)
   have hT7:=hsx.grown hG7 (by simp;omega)
   have hR7:=hRx.grown hG7 (by simp;omega)
   have hz7':db+3≤W7.heap.size:=by rw [hz7];exact hzx
   have hTb:Tab W7:=HT.out.below (by rw [Hdb.out];exact hB7:Below w.heap.size w W7) HT.out.lt
   clear hzz hBx hsx hRx hzx hs hR hB hz hW1 hA hAt hTw hG7 hz7
   generalize wr.heap.size=bx at hs7 ⊢
   clear wr
   go_wp2_with ((with_reducible refine zL hs7.at aggCl rfl (C:=clA c) ?_))
   refine (clBytes W7 c hTb).mono ?_
   rintro e W8 ⟨v,rfl,hO,hB8⟩
   have hB8':Below db w W8:=hB7.trans (hB8.mono (by omega))
   have hT8:=hT7.below hB8 hT7.lt
   have hR8:=hR7.below hB8 hR7.lt
   have hz8:=Nat.le_trans hz7' hB8.size
   obtain ⟨ml,Hml⟩:∃l,Hid (memL c=l):=⟨_,Lib.hid rfl⟩
   have hml:mbs c=ml.map UInt8.ofNat:=by rw [← Hml.out];rfl
   have HLT:Hid (∀b∈ml,b<256):=Lib.hid (by rw [← Hml.out];exact memL_lt c)
   have hnb:ml.length≤256:=by rw [← Hml.out];exact memN_len c 256
   rw [hml] at hO
   rw [Hml.out] at HKS
   clear hml hTb
   have HP:Hid (∀j,j<ml.length→∃b cap,v= .slice (some ⟨b,0,none⟩) ml.length cap∧db+3≤b∧b<W8.heap.size∧W8.cell? ⟨b,j,none⟩=some (.int .u8 (ml.getD j 0:Nat))):=Lib.hid fun j hj=>by
    rcases hO.2 with ⟨hq,h0⟩ | ⟨g,cap',cur,hv,hg,hgc,_⟩
    ·exfalso
     have h1:=hO.slice
     obtain ⟨p,c',h1⟩:=h1
     rw [hq] at h1
     injection h1 with _ h1 _
     rw [List.length_map] at h1;omega
    ·obtain ⟨p,c',h1⟩:=hO.slice
     have h2:=hO.rd
     rw [hv] at h2 h1
     obtain ⟨b,o,he,hn,_,ha,hbl⟩:=h2.nonempty (by rw [List.length_map];omega)
     injection he with he
     injection he with he1 he2 _
     subst he1 he2
     refine ⟨g,cap',by rw [hv,hn,List.length_map],by omega,hbl,?_⟩
     have h3:=ha j (by rw [List.length_map];exact hj)
     rw [Nat.zero_add] at h3
     rw [h3,List.getElem?_map,List.getElem?_eq_getElem hj,List.getD_eq_getElem?_getD,List.getElem?_eq_getElem hj]
     have h4:ml[j]<256:=HLT.out _ (List.getElem_mem hj)
     simp only [Option.map_some,u8V,Option.getD_some]
     rw [UInt8.toNat_ofNat_of_lt' h4]
   obtain ⟨pv,cv,hv⟩:=hO.slice
   rw [List.length_map] at hv
   subst hv
   obtain ⟨nb,Hnb⟩:∃n,Hid (ml.length=n):=⟨_,Lib.hid rfl⟩
   rw [Hnb.out] at HP hnb ⊢
   clear hO hB8 hB7 hT7 hR7 hz7' hs7
   clear W7
   have HWB:Hid (Below db w W8):=Lib.hid hB8'
   go_wp2_with fail
   go_loopw [27] (fun i wq=>∃j:Nat,j≤nb∧i= .int .i64 j∧Row oV wq (db+2) 166 (tbL ⟨setAll k (ml.take j) (cellK D.cls k),m,[],[]⟩ ⟨.slice pn n1 kn,rfl⟩ ⟨.slice pa n2 ka,rfl⟩)∧W8.grownBy wq (some (db+2))) (fun i _=>nb - (intOf i).toNat)
   case atStart=>exact ⟨0,by omega,rfl,hT8,World.grownBy.refl _ _⟩
   case round=>
    clear hT8 hB8'
    obtain ⟨j,hj,rfl,hs,hG⟩:=hrel
    by_cases hjl:j<nb
    ·have hq2:(j:Int)<(nb:Int):=by omega
     obtain ⟨b,cap,hv,hb1,hb2,hc⟩:=HP.out j hjl
     injection hv with hv1 _ _
     subst hv1
     have cx:wr.cell? ⟨b,j,none⟩=some (.int .u8 (ml.getD j 0:Nat)):=(World.cell?_of_block (a:=⟨b,j,none⟩) (hG.block b hb2 (by simp;omega))).trans hc
     have hx:ml.getD j 0<256:=HLT.out _ (getD_mem _ _ _ (by rw [Hnb.out];exact hjl))
     have HST:Hid (setAll k (ml.take (j+1)) (cellK D.cls k)=(setAll k (ml.take j) (cellK D.cls k)).set (ml.getD j 0) k):=Lib.hid (by
      have hjm:j<ml.length:=by rw [Hnb.out];exact hjl
      unfold setAll
      rw [foldl_take_succ _ _ _ _ hjm,List.getD_eq_getElem?_getD,List.getElem?_eq_getElem hjm];rfl)
     have hcl:(setAll k (ml.take j) (cellK D.cls k)).length=256:=by rw [setAll_length];exact HCL.out
     generalize setAll k (ml.take j) (cellK D.cls k)=cl at *
     generalize ml.getD j 0=x at *
     have hx1:(x:Int)<256:=by omega
     have hold:wr.cell? ⟨db+2,x,none⟩=some (.int .i64 (cl.getD x 0:Nat)):=by rw [hs.cell?,tbL_cell (T:=⟨cl,m,[],[]⟩) _ _ (by rw [hcl];exact hx)];rfl
     have fr:=hs.frozen x
     have hs':=hs.set x (oi (k:Int))
     rw [tbL_set ⟨cl,m,[],[]⟩ _ _ x k (by rw [hcl];exact hx)] at hs'
     have hG':=Mem.grown_set hG x (.int .i64 (k:Int))
     clear hc hs hG
     go_wp2_with fail
     go_roundw
     case rel=>exact ⟨j+1,by omega,by go_num,by rw [HST.out];exact hs',hG'⟩
     case measure=>simp [intOf];omega
    ·obtain rfl:j=nb:=by omega
     have hBf:=HWB.out.grown hG (by have:=HWB.out.size;omega) (fun k e=>by cases e;omega)
     have hRf:=hR8.grown hG (by simp)
     have hzf:=Nat.le_trans hz8 hG.size
     rw [List.take_of_length_le (by rw [Hnb.out];exact Nat.le_refl _),← HKS.out] at hs
     clear hG
     go_wp2_with fail
     go_roundw
     case rel=>exact ⟨k+1,by omega,by go_num,hs,hRf,hBf,hzf⟩
     case measure=>simp [intOf];omega
  ·obtain rfl:k=m:=by omega
   have hTT:tbL ⟨cellK D.cls k,k,[],[]⟩ ⟨.slice pn n1 kn,rfl⟩ ⟨.slice pa n2 ka,rfl⟩=tbL (tabOf D) ⟨.slice pn n1 kn,rfl⟩ ⟨.slice pa n2 ka,rfl⟩:=by
    unfold tbL tabOf;rw [Hm.out]
   rw [hTT] at hs
   have HCL:=Lib.hid (cellK_length D.cls D.cls.length)
   obtain ⟨L,HL⟩:∃L,Hid (tbL (tabOf D) ⟨.slice pn n1 kn,rfl⟩ ⟨.slice pa n2 ka,rfl⟩=L):=⟨_,Lib.hid rfl⟩
   rw [HL.out] at hs
   have hLl:L.length=259:=by rw [← HL.out];exact tbL_length _ _ HCL.out
   have hLz:L.length=(tbL ⟨List.replicate 256 0,0,[],[]⟩ on on).length:=by rw [hLl,tbL_length _ _ (by simp)]
   have hAT:AggT Tryz.prog 166 L.length:=by rw [hLl];exact aggTb
   obtain ⟨C,HCC⟩:∃C,Hid (C=(L.map oV).toArray):=⟨_,Lib.hid rfl⟩
   clear hTT
   go_wp2_with (first
    | ((with_reducible refine zL hs.at hAT HCC.out ?_))
    | ((with_reducible refine store_agg (f:=oV) (l:=tbL ⟨List.replicate 256 0,0,[],[]⟩ on on) (l':=L) (t:=166) (C:=C) hAT (.tmp 2) (.tmp 37) ?_ ?_ (db+1) ?_ HCC.out ?_ hR hLz oV_one ?_);rfl;rfl;rfl;rfl;(intro W9 hs9 hG9 hz9)))
   have hBf:=hB.grown hG9 (by have:=hB.size;omega) (fun k e=>by cases e;omega)
   refine bodyPost_ret (results_agg (f:=oV) (l:=L) rfl _ hAT (db+1) 0 rfl hs9.at) rfl ?_
   exact ⟨by rw [HL.out],by rw [Hdb.out];exact hBf⟩
theorem dTable (w:World) (v:Value) (D:DF) (hv:DfAt w v D) (hm:D.cls.length≤256) (hT:Tab w):Calls Tryz.prog 70 #[v] w fun e w'=>∃C,e= .returned (.agg C)∧TbAt w' C (tabOf D)∧Below w.heap.size w w':=by
 have hv':=hv
 obtain ⟨vc,vn,va,rfl,h1,h2,h3⟩:=hv
 obtain ⟨pn,kn,rfl⟩:=h2.slice
 obtain ⟨pa,ka,rfl⟩:=h3.slice
 refine (dTableT w vc ⟨.slice pn D.nx.length kn,rfl⟩ ⟨.slice pa D.ac.length ka,rfl⟩ D hv' hm hT).mono ?_
 rintro e w' ⟨rfl,hB⟩
 exact ⟨_,rfl,⟨_,_,rfl,RdNN.below' h2 hB,h3.below hB,cellK_length D.cls D.cls.length⟩,hB⟩
end Go.Proofs.YtncnfncglacheaaGreatDoor
namespace Go.Proofs.YtncnfncglacheaaGreatDoor
open Go.ChangeShapes Go.WideShapes Go.ChangeAt Go.RowKit Mem
set_option maxRecDepth 100000
namespace LawFrame
theorem gTab:Tryz.prog.globalNamed "math/bits.deBruijn64tab" =some 1:=by kernel_rfl
theorem gTabType:(Tryz.prog.globals[1]?).map (·.type)=some 331:=by kernel_rfl
theorem cells64:Tryz.prog.cellsOf 331=64:=by kernel_rfl
theorem bits_data:(Rows.laid_math_bits_deBruijn64tab:DataW Unit)=Lib.tabData .u8 (Lib.deBruijn64tab.map fun x:Nat=>(x:Int)):=rfl
theorem tabAt {W:World} (h:laidMetH Tryz.prog laid W):Tab W:=by
 have h1:laidMet Tryz.prog laid W:=h
 unfold laid at h1
 rw [bits_data] at h1
 have h3:=Lib.tabIs_of_head (rest:=[]) gTab gTabType Tryz.underlying331 Tryz.underlying5 cells5 cells64 h1
 intro j hj
 have h4:=Lib.TabIs.cell h3 gTab j (by simpa [Lib.deBruijn64tab] using hj)
 rw [h4]
 congr 2
 simp only [List.getD,List.getElem?_map]
 rw [List.getElem?_eq_getElem (by simpa [Lib.deBruijn64tab] using hj)]
 rfl
end LawFrame
end Go.Proofs.YtncnfncglacheaaGreatDoor
namespace Go.Proofs.YtncnfncglacheaaGreatDoor
open Go Go.RowKit Mem
set_option maxRecDepth 100000
theorem eltNB:Elt Tryz.prog 35 4 1:=Elt.mk' Tryz.underlying35 (z:= .bool false) (by kernel_rfl) rfl
theorem eltNI:Elt Tryz.prog 92 3 8:=Elt.mk' (z:= .int .i64 0) Tryz.underlying92 (by kernel_rfl) rfl
theorem bV_one (x:Bool):(Value.bool x).oneCell'=true:=rfl
theorem mkBoolN (w:World) (n:Nat) (hn:n≤4294967296):(Instr.makeSlice 35 (.int .i64 (n:Int)) (.int .i64 (n:Int))).run Tryz.prog w= .ok (.slice (some ⟨w.heap.size,0,none⟩) n n) (w.alloc (.cells ((List.replicate n false).map Value.bool).toArray 4)):=by
 obtain ⟨i,z,hi,hz,hs,hb,_⟩:=eltNB.hi
 have hzz:z= .bool false:=by
  have h:(Tryz.prog.info? 4).bind (·.zero)=some (.bool false):=by kernel_rfl
  rw [hi] at h
  exact Option.some.inj (hz.symm.trans h)
 have h:=run_make w 35 4 i z Tryz.underlying35 hi hz .i64 .i64 (n:Int) (n:Int) (by omega) (Int.le_refl _) (by rw [hb];omega) (by omega)
 rw [Int.toNat_natCast,hs,hzz,Nat.mul_one] at h
 rw [h]
 show Result.ok _ (w.alloc (.cells (madeCells #[.bool false] n) _))=_
 have e:madeCells #[.bool false] n=((List.replicate n false).map Value.bool).toArray:=by
  apply Array.toList_inj.1
  rw [toList_madeCells_one,List.map_replicate]
 rw [e]
theorem mkIntN (w:World) (n:Nat) (hn:n≤4294967296):(Instr.makeSlice 92 (.int .i64 (n:Int)) (.int .i64 (n:Int))).run Tryz.prog w= .ok (.slice (some ⟨w.heap.size,0,none⟩) n n) (w.alloc (.cells ((List.replicate n 0).map nV).toArray 3)):=by
 obtain ⟨i,z,hi,hz,hs,hb,_⟩:=eltNI.hi
 have hzz:z= .int .i64 0:=by
  have h:(Tryz.prog.info? 3).bind (·.zero)=some (.int .i64 0):=by kernel_rfl
  rw [hi] at h
  exact Option.some.inj (hz.symm.trans h)
 have h:=run_make w 92 3 i z Tryz.underlying92 hi hz .i64 .i64 (n:Int) (n:Int) (by omega) (Int.le_refl _) (by rw [hb];omega) (by omega)
 rw [Int.toNat_natCast,hs,hzz,Nat.mul_one] at h
 rw [h]
 show Result.ok _ (w.alloc (.cells (madeCells #[.int .i64 0] n) _))=_
 have e:madeCells #[.int .i64 0] n=((List.replicate n 0).map nV).toArray:=by
  apply Array.toList_inj.1
  rw [toList_madeCells_one,List.map_replicate]
  rfl
 rw [e]
namespace Mem
theorem Own.kept {α:Type} {f:α→Value} {w w':World} {base:Nat} {e:TypeId} {v:Value} {l:List α} (h:Own f w base e v l) {row:Option Nat} (hg:w.grownBy w' row) (hne:∀g,v.ownBlock=some g→row≠some g):Own f w' base e v l:=by
 refine ⟨h.1,?_⟩
 rcases h.2 with hn | ⟨g,cap,cur,rfl,hbg,hc,rest⟩
 ·exact .inl hn
 ·exact .inr ⟨g,cap,cur,rfl,hbg,(hg.block g (Array.getElem?_eq_some_iff.1 hc).1 (fun e=>hne g rfl e.symm)).trans hc,rest⟩
theorem Own.block {α:Type} {f:α→Value} {w:World} {base:Nat} {e:TypeId} {p:Option Addr} {n c:Nat} {l:List α} (h:Own f w base e (.slice p n c) l) (hl:0<l.length):∃g,p=some ⟨g,0,none⟩∧base≤g∧g<w.heap.size∧n=l.length∧n≤c∧At f w g 0 l∧w.frozen? ⟨g,0,none⟩=false:=by
 have hat:=h.at
 rcases h.2 with ⟨he,h0⟩ | ⟨g,cap,cur,he,hb,hg,hn,hm,_⟩
 ·exact absurd h0 (by rw [List.length_eq_zero_iff];intro e;rw [e] at hl;simp at hl)
 ·injection he with e1 e2 e3
  subst e1 e2 e3
  refine ⟨g,rfl,hb,(Array.getElem?_eq_some_iff.1 hg).1,rfl,hn,hat g rfl,?_⟩
  unfold World.frozen?
  rw [hg]
  rfl
end Mem
theorem ownN_at {w:World} {base g n c:Nat} {e:TypeId} {l:List Nat} (h:Mem.Own nV w base e (.slice (some ⟨g,0,none⟩) n c) l) (k:Nat) (hk:k<l.length):w.cell? ⟨g,k,none⟩=some (.int .i64 (l.getD k 0:Nat)):=by
 have:=h.at g rfl k hk
 rw [Nat.zero_add] at this
 rw [this,List.getElem?_eq_getElem hk,List.getD_eq_getElem?_getD,List.getElem?_eq_getElem hk];rfl
theorem rowB_at {w:World} {b:Nat} {t:TypeId} {l:List Bool} (h:Row Value.bool w b t l) (k:Nat) (hk:k<l.length):w.cell? ⟨b,k,none⟩=some (.bool (l.getD k false)):=by
 rw [h.cell?,List.getElem?_eq_getElem hk,List.getD_eq_getElem?_getD,List.getElem?_eq_getElem hk];rfl
theorem rowN_at {w:World} {b:Nat} {t:TypeId} {l:List Nat} (h:Row nV w b t l) (k:Nat) (hk:k<l.length):w.cell? ⟨b,k,none⟩=some (.int .i64 (l.getD k 0:Nat)):=by
 rw [h.cell?,List.getElem?_eq_getElem hk,List.getD_eq_getElem?_getD,List.getElem?_eq_getElem hk];rfl
def seenB (n:Nat) (l:List Nat):List Bool:=(List.range n).map fun i=>decide (i∈l)
theorem seenB_length (n:Nat) (l:List Nat):(seenB n l).length=n:=by simp [seenB]
theorem seenB_at (n:Nat) (l:List Nat) (i:Nat) (h:i<n):(seenB n l).getD i false=decide (i∈l):=by
 rw [List.getD_eq_getElem?_getD,seenB,List.getElem?_map,List.getElem?_range h];rfl
theorem seenB_set (n:Nat) (l:List Nat) (i:Nat):(seenB n l).set i true=seenB n (l++[i]):=by
 apply List.ext_getElem?
 intro j
 rw [List.getElem?_set]
 by_cases hij:i=j
 ·subst hij
  rw [if_pos rfl,seenB_length]
  unfold seenB
  rw [List.getElem?_map]
  split
  ·rename_i h;rw [List.getElem?_range h];simp
  ·rename_i h;rw [List.getElem?_eq_none (by simp;omega)];rfl
 ·rw [if_neg hij]
  unfold seenB
  rw [List.getElem?_map,List.getElem?_map]
  by_cases hj:j<n
  ·rw [List.getElem?_range hj]
   have:j≠i:=fun e=>hij e.symm
   simp [this]
  ·rw [List.getElem?_eq_none (by simp;omega)];rfl
end Go.Proofs.YtncnfncglacheaaGreatDoor
namespace Go.Proofs.YtncnfncglacheaaGreatDoor
open Go Go.RowKit Mem
set_option maxRecDepth 100000
structure TbR (w:World) (b:Nat) (T:TB) (vn va:OC):Prop where
 row:Row oV w b 166 (tbL T vn va)
 cl:T.cell.length=256
theorem TbR.c {w:World} {b:Nat} {T:TB} {vn va:OC} (h:TbR w b T vn va) (i:Nat) (hi:i<256):w.cell? ⟨b,i,none⟩=some (.int .i64 (T.cell.getD i 0:Nat)):=by
 rw [h.row.cell?,tbL_cell vn va (by rw [h.cl];exact hi)];rfl
theorem TbR.cells {w:World} {b:Nat} {T:TB} {vn va:OC} (h:TbR w b T vn va):w.cell? ⟨b,256,none⟩=some (.int .i64 (T.cells:Int)):=by
 rw [h.row.cell?,tbL_hi vn va h.cl 0];rfl
theorem TbR.nx {w:World} {b:Nat} {T:TB} {vn va:OC} (h:TbR w b T vn va):w.cell? ⟨b,257,none⟩=some vn.1:=by
 rw [h.row.cell?,tbL_hi vn va h.cl 1];rfl
theorem TbR.ac {w:World} {b:Nat} {T:TB} {vn va:OC} (h:TbR w b T vn va):w.cell? ⟨b,258,none⟩=some va.1:=by
 rw [h.row.cell?,tbL_hi vn va h.cl 2];rfl
theorem rows_at {w:World} {p:Option Addr} {n c:Nat} {l:List (List Nat)} (h:RdNN w (.slice p n c) l) (k:Nat) (hk:k<l.length):
  ∃b o q d,p=some ⟨b,o,none⟩∧n=l.length∧b<w.heap.size∧w.cell? ⟨b,o+k,none⟩=some (.slice q (l.getD k []).length d)∧Rd nV w (.slice q (l.getD k []).length d) (l.getD k []):=by
 have hs:=h.slice
 obtain ⟨_,_,hs⟩:=hs
 injection hs with _ hn _
 obtain ⟨b,o,u,rfl,hc,hr,_,hb⟩:=h.elem k hk
 have e:l.getD k []=l[k]:=by rw [List.getD_eq_getElem?_getD,List.getElem?_eq_getElem hk];rfl
 rw [← e] at hr
 obtain ⟨q,d,rfl⟩:=hr.slice
 exact ⟨b,o,q,d,rfl,hn,hb,hc,hr⟩
set_option maxHeartbeats 8000000 in
theorem tReached (w:World) (C:Array Value) (T:TB) (hC:TbAt w C T) (hT:T.Ok):
  Calls Tryz.prog 228 #[.agg C] w fun e w'=>∃p c,e= .returned (.slice p T.reach.length c)∧Mem.Own nV w' w.heap.size 3 (.slice p T.reach.length c) T.reach∧Below w.heap.size w w':=by
 obtain ⟨⟨vn,hvn⟩,⟨va,hva⟩,hCe,h1,h2,h3⟩:=hC
 obtain ⟨pn,kn,rfl⟩:=h1.slice
 have HN:=Lib.hid h1
 have HT:=Lib.hid hT
 obtain ⟨n,Hn⟩:∃n,Hid (T.nx.length=n):=⟨_,Lib.hid rfl⟩
 have g1:1≤n:=by rw [← Hn.out];exact hT.n1
 have g2:n≤65535:=by rw [← Hn.out];exact hT.nn
 have HR:Hid (T.reach=reachF T.nx (n - 0) 0 [0]):=Lib.hid (by rw [← Hn.out];rfl)
 rw [Hn.out] at HN hCe
 clear h1 h2 hT
 have hT0:TbR (w.alloc (.cells C 166)) w.heap.size T ⟨.slice pn n kn,hvn⟩ ⟨va,hva⟩:=⟨Row.new _ _ (by rw [hCe]),h3⟩
 have hB0:Below w.heap.size w (w.alloc (.cells C 166)):=(Below.refl _ _).alloc (Nat.le_refl _) _
 have hS0:(w.alloc (.cells C 166)).heap.size=w.heap.size+1:=World.size_alloc _ _
 clear hCe
 go_enter Tryz.func228,Tryz.ntmps228
 go_upto_region 1 with (fail)
 generalize (w.alloc (.cells C 166))=W at hT0 hB0 hS0 ⊢
 have c257:=hT0.nx
 obtain ⟨MB,hMB⟩:∃C,Hid (C=((List.replicate n false).map Value.bool).toArray):=⟨_,Lib.hid rfl⟩
 have hmk:∀w:World,(Instr.makeSlice 35 (.int .i64 (n:Int)) (.int .i64 (n:Int))).run Tryz.prog w= .ok (.slice (some ⟨w.heap.size,0,none⟩) n n) (w.alloc (.cells MB 4)):=fun w=>by rw [hMB.out];exact mkBoolN w n (by omega)
 have hSb:Row Value.bool (W.alloc (.cells MB 4)) W.heap.size 4 (seenB n []):=by
  have e:(List.replicate n false:List Bool)=seenB n []:=by
   unfold seenB;apply List.ext_getElem<;>simp
  rw [hMB.out,e];exact Row.new _ _ rfl
 have hT1:TbR (W.alloc (.cells MB 4)) w.heap.size T ⟨.slice pn n kn,hvn⟩ ⟨va,hva⟩:=⟨hT0.row.alloc _,h3⟩
 have hB1:=below_al hB0 (Nat.le_refl _) (.cells MB 4)
 have hS1:(W.alloc (.cells MB 4)).heap.size=w.heap.size+2:=by rw [World.size_alloc,hS0]
 rw [hS0] at hSb
 go_upto_region 2 with (fail)
 generalize (W.alloc (.cells MB 4))=W1 at hSb hT1 hB1 hS1 ⊢
 clear hT0 hB0 hS0 c257 hmk hMB
 clear W MB
 obtain ⟨tb,Htb⟩:∃tb,Hid (w.heap.size=tb):=⟨_,Lib.hid rfl⟩
 rw [Htb.out] at hSb hT1 hB1 hS1 ⊢
 have cs0:W1.cell? ⟨tb+1,0,none⟩=some (.bool ((seenB n []).getD 0 false)):=rowB_at hSb 0 (by rw [seenB_length];omega)
 have fs0:=hSb.frozen 0
 have hSb2:=hSb.set 0 true
 rw [seenB_set,List.nil_append] at hSb2
 have hT2:TbR (W1.setCell ⟨tb+1,0,none⟩ (.bool true)) tb T ⟨.slice pn n kn,hvn⟩ ⟨va,hva⟩:=⟨hT1.row.set_other (by omega) 0 _,h3⟩
 have hB2:=below_set hB1 (b:=tb+1) 0 (by omega) (.bool true)
 have hS2:(W1.setCell ⟨tb+1,0,none⟩ (.bool true)).heap.size=tb+2:=by simp [hS1]
 have g1i:(0:Int)<(n:Int):=by omega
 go_upto_region 3 with (fail)
 generalize (W1.setCell ⟨tb+1,0,none⟩ (.bool true))=W2 at hSb2 hT2 hB2 hS2 ⊢
 clear hSb hT1 hB1 hS1 cs0 fs0
 clear W1
 have hO3:Mem.Own nV (W2.alloc (.cells #[.int .i64 0] 3)) W2.heap.size 3 (.slice (some ⟨W2.heap.size,0,none⟩) 1 1) [0]:=Own.new (l:=[0]) W2 _ W2.heap.size (Nat.le_refl _) rfl (by unfold maxLen;simp)
 have hSb3:=hSb2.alloc (.cells #[.int .i64 0] 3)
 have hT3:TbR (W2.alloc (.cells #[.int .i64 0] 3)) tb T ⟨.slice pn n kn,hvn⟩ ⟨va,hva⟩:=⟨hT2.row.alloc _,h3⟩
 have hB3:=below_al hB2 (Nat.le_of_eq Htb.out.symm) (.cells #[.int .i64 0] 3)
 have hS3:tb+2≤(W2.alloc (.cells #[.int .i64 0] 3)).heap.size:=by rw [World.size_alloc];omega
 rw [hS2] at hO3
 go_upto_region 4 with (fail)
 generalize (W2.alloc (.cells #[.int .i64 0] 3))=W3 at hO3 hSb3 hT3 hB3 hS3 ⊢
 clear hSb2 hT2 hB2 hS2
 clear W2
 have hL3:=LOk.one g1
 have HRB:Hid (∀r∈T.nx,∀t∈r,t<n):=Lib.hid (by rw [← Hn.out];exact HT.out.rb)
 go_wp2_with fail
 go_loopw [4,5] (fun s4 s5 wr=>∃(i:Nat) (l:List Nat) (pl:Option Addr) (kl:Nat),s4= .slice pl l.length kl∧s5= .int .i64 i∧Mem.Own nV wr (tb+2) 3 (.slice pl l.length kl) l∧Row Value.bool wr (tb+1) 4 (seenB n l)∧TbR wr tb T ⟨.slice pn n kn,hvn⟩ ⟨va,hva⟩∧LOk n l∧i≤l.length∧Hid (T.reach=reachF T.nx (n - i) i l)∧Below tb w wr∧tb+2≤wr.heap.size) (fun _ s5 _=>n - (intOf s5).toNat)
 case atStart=>exact ⟨0,[0],_,_,rfl,rfl,hO3,hSb3,hT3,hL3,by omega,HR,hB3,hS3⟩
 case round=>
  clear hO3 hSb3 hT3 hL3 hB3 hS3 HR g1i
  obtain ⟨i,l,pl,kl,rfl,rfl,hO,hSb,hTb,hL,hil,HR,hB,hS⟩:=hrel
  have hln:=hL.len
  have HL:=Lib.hid hL
  by_cases hlt:i<l.length
  ·have hq:(i:Int)<(l.length:Int):=by omega
   obtain ⟨g,rfl,hg1,hg2,hg3,hgc,hgat,hg4⟩:=hO.block (by omega)
   have cl:=ownN_at hO i hlt
   have hs:l.getD i 0<n:=hL.lt _ (getD_mem l i 0 hlt)
   have c257:=hTb.nx
   have hW1:Below w.heap.size w wr:=by rw [Htb.out];exact hB
   obtain ⟨nb,no,rq,rd,rfl,hnn,hnb,hcr,hrow⟩:=rows_at HN.out (l.getD i 0) (by rw [Hn.out];exact hs)
   have cr:wr.cell? ⟨nb,no+l.getD i 0,none⟩=some (.slice rq (T.nx.getD (l.getD i 0) []).length rd):=(hW1.cell (p:=⟨nb,no+l.getD i 0,none⟩) hnb).trans hcr
   have HROW:=Lib.hid hrow
   have hrm:(T.nx.getD (l.getD i 0) []).length≤256:=by rw [HT.out.rw _ (getD_mem _ _ _ (by rw [Hn.out];exact hs))];exact HT.out.c256
   have HRT:Hid (∀t∈T.nx.getD (l.getD i 0) [],t<n):=Lib.hid (row_lt HRB.out _)
   have HST:=Lib.hid (reachF_step T.nx n i l hlt hln)
   rw [← HR.out] at HST
   generalize l.getD i 0=s at *
   generalize T.nx.getD s []=row at *
   have hsi:(s:Int)<(n:Int):=by omega
   have hll:(l.length:Int)≤65535:=by omega
   clear hL hcr hrow hgat hnn hg3 hg4
   go_wp2_with fail
   go_quiet (fail)
   replace hO:Mem.Own nV (wr.drewN nq) (tb+2) 3 (.slice (some ⟨g,0,none⟩) l.length kl) l:=hO
   replace hSb:Row Value.bool (wr.drewN nq) (tb+1) 4 (seenB n l):=hSb
   replace hTb:TbR (wr.drewN nq) tb T ⟨.slice (some ⟨nb,no,none⟩) n kn,hvn⟩ ⟨va,hva⟩:=⟨hTb.row,hTb.cl⟩
   replace hB:Below tb w (wr.drewN nq):=⟨hB.os,hB.tape,hB.output,hB.size,hB.block⟩
   replace hS:tb+2≤(wr.drewN nq).heap.size:=hS
   clear cl c257 cr hg1 hg2 hgc hW1
   generalize (wr.drewN nq)=W4 at hO hSb hTb hB hS ⊢
   clear wr
   obtain ⟨m,Hm⟩:∃m,Hid (row.length=m):=⟨_,Lib.hid rfl⟩
   rw [Hm.out] at HROW hrm ⊢
   obtain ⟨l0,Hl0⟩:∃l0:List Nat,Hid (l=l0):=⟨_,Lib.hid rfl⟩
   have hl0:l=rowIn l0 (row.take 0):=Hl0.out
   have HL0:=Lib.hid (show l0.length≤n by rw [← Hl0.out];exact hln)
   have HGE:=Lib.hid (show i<l0.length by rw [← Hl0.out];exact hlt)
   rw [Hl0.out] at HST
   go_wp2_with fail
   go_loopw [4,30] (fun s4 s30 wr=>∃(j:Nat) (l:List Nat) (pl:Option Addr) (kl:Nat),j≤m∧s4= .slice pl l.length kl∧s30= .int .i64 j∧Hid (l=rowIn l0 (row.take j))∧Mem.Own nV wr (tb+2) 3 (.slice pl l.length kl) l∧Row Value.bool wr (tb+1) 4 (seenB n l)∧TbR wr tb T ⟨.slice (some ⟨nb,no,none⟩) n kn,hvn⟩ ⟨va,hva⟩∧LOk n l∧Below tb w wr∧tb+2≤wr.heap.size) (fun _ s30 _=>m - (intOf s30).toNat)
   case atStart=>exact ⟨0,l,_,_,by omega,rfl,rfl,Lib.hid hl0,hO,hSb,hTb,HL.out,hB,hS⟩
   case round=>
    clear hO hSb hTb hB hS hl0 HL hln hll hq hlt hil HR
    obtain ⟨j,l2,pl,kl2,hj,rfl,rfl,HRI,hO,hSb,hTb,hL,hB,hS⟩:=hrel
    by_cases hjm:j<m
    ·have hq:(j:Int)<(m:Int):=by omega
     obtain ⟨rb,ro,rfl,hct⟩:=rdN_at HROW.out j hjm
     have ct:=hct wr (by rw [Htb.out];exact hB)
     have hjl:j<row.length:=by rw [Hm.out];exact hjm
     have ht:row.getD j 0<n:=HRT.out _ (getD_mem _ _ _ hjl)
     have HSU:Hid (rowIn l0 (row.take (j+1))=addN l2 (row.getD j 0)):=Lib.hid (by
      rw [HRI.out];unfold rowIn
      rw [foldl_take_succ _ _ _ _ hjl,List.getD_eq_getElem?_getD,List.getElem?_eq_getElem hjl];rfl)
     generalize row.getD j 0=t at *
     have hti:(t:Int)<(n:Int):=by omega
     have cs:=rowB_at hSb t (by rw [seenB_length];exact ht)
     rw [seenB_at n l2 t ht] at cs
     have fs:=hSb.frozen t
     have hln:=hL.len
     clear hct
     by_cases hm:t∈l2
     ·rw [decide_eq_true hm] at cs
      have HN1:Hid (l2=rowIn l0 (row.take (j+1))):=Lib.hid (by rw [HSU.out,addN,if_pos hm])
      go_wp2_with fail
      go_roundw
      case rel=>exact ⟨j+1,l2,_,_,by omega,rfl,by go_num,HN1,hO,hSb,hTb,hL,hB,hS⟩
      case measure=>simp [intOf];omega
     ·rw [decide_eq_false hm] at cs
      have HN1:Hid (l2++[t]=rowIn l0 (row.take (j+1))):=Lib.hid (by rw [HSU.out,addN,if_neg hm])
      have hL1:=hL.add ht
      rw [addN,if_neg hm] at hL1
      have hSb1:=hSb.set t true
      rw [seenB_set] at hSb1
      have hT1:TbR (wr.setCell ⟨tb+1,t,none⟩ (.bool true)) tb T ⟨.slice (some ⟨nb,no,none⟩) n kn,hvn⟩ ⟨va,hva⟩:=⟨hTb.row.set_other (by omega) t _,hTb.cl⟩
      have hB1:=below_set hB (b:=tb+1) t (by omega) (.bool true)
      have hO1:=hO.kept (grown_cell wr (tb+1) t (.bool true)) (fun g hg e=>by have:=(hO.lt g hg).1;injection e with e;omega)
      have hS1:tb+2≤(wr.setCell ⟨tb+1,t,none⟩ (.bool true)).heap.size:=by simpa using hS
      clear hSb hTb hB hO hS HSU hm HRI
      go_upto_region 12 with (fail)
      clear ct cs fs
      generalize (wr.setCell ⟨tb+1,t,none⟩ (.bool true))=W5 at hSb1 hT1 hB1 hO1 hS1 ⊢
      go_upto_region 13 with (at_builtin;(with_reducible refine append_one eltNI (.tmp 42) (.tmp 44) ?_ ?_ nV_one ?_ hO1 t _ ?_ _ ?_ ?_ ?_ ?_ (l2++[t]) ?_ ?_);rfl;rfl;rfl;rfl;rfl;(omega);(omega);(exact hS1);rfl;(intro p2 c2 W6 hO2 hB2 hG2))
      have hne:∀b,b<tb+2→some b≠(Value.slice pl l2.length kl2).ownBlock:=fun b hb e=>by have:=(hO1.lt b e.symm).1;omega
      have hSb2:=(hSb1.alloc (.cells #[.int .i64 (t:Int)] 3)).grown hG2 (hne _ (by omega))
      have hT2:TbR W6 tb T ⟨.slice (some ⟨nb,no,none⟩) n kn,hvn⟩ ⟨va,hva⟩:=⟨(hT1.row.alloc (.cells #[.int .i64 (t:Int)] 3)).grown hG2 (hne _ (by omega)),hT1.cl⟩
      have hB3:=hB1.trans (hB2.mono (by omega))
      have hS2:=Nat.le_trans hS1 hB2.size
      obtain ⟨l3,Hl3⟩:∃l3,Hid (l2++[t]=l3):=⟨_,Lib.hid rfl⟩
      have hlen:l2.length+1=l3.length:=by rw [← Hl3.out];simp
      rw [Hl3.out] at hO2 hSb2 hL1 HN1
      rw [hlen]
      clear hSb1 hT1 hB1 hO1 hS1 hB2 hG2 hne
      go_wp2_with fail
      go_roundw
      case rel=>exact ⟨j+1,l3,_,_,by omega,rfl,by go_num,HN1,hO2,hSb2,hT2,hL1,hB3,hS2⟩
      case measure=>simp [intOf];omega
    ·have hq:¬(j:Int)<(m:Int):=by omega
     have hjm2:j=m:=by omega
     have HN2:Hid (T.reach=reachF T.nx (n - (i+1)) (i+1) l2):=Lib.hid (by
      rw [HST.out,HRI.out,hjm2,← Hm.out,List.take_length])
     have hge:l0.length≤l2.length:=by
      have h:=rowIn_ge (row.take j) l0
      rw [← HRI.out] at h;exact h
     have hi2:=HGE.out
     have hl2:=hL.len
     clear HST HRI
     go_wp2_with fail
     go_roundw
     case rel=>exact ⟨i+1,l2,_,_,rfl,by go_num,hO,hSb,hTb,hL,by omega,HN2,hB,hS⟩
     case measure=>simp [intOf];omega
  ·have hq:¬(i:Int)<(l.length:Int):=by omega
   have HE:Hid (T.reach=l):=Lib.hid (by rw [HR.out];exact reachF_end _ _ _ _ (by omega))
   go_wp2
   go_ret
   refine ⟨pl,kl,by rw [HE.out];rfl,?_,by rw [Htb.out];exact hB⟩
   rw [HE.out,Htb.out]
   exact hO.mono (by omega)
end Go.Proofs.YtncnfncglacheaaGreatDoor
