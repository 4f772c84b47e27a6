/- automaton's merge. -/
import Derived.Test.YtncnfncglacheaaGreatDoorMTbM
import Derived.Test.YtncnfncglacheaaGreatDoorMKeys
import Derived.Test.YtncnfncglacheaaGreatDoorMDial
import Derived.Lib.Hide
import Derived.Deep.LoopGhost
import Derived.RegionTactic
import Derived.Deep.DeepCutAuto
import Derived.Test.YtncnfncglacheaaGreatDoorMHeldD
import Derived.Test.YtncnfncglacheaaGreatDoorMCells
import Derived.Test.YtncnfncglacheaaGreatDoorMIndex
import Derived.Test.YtncnfncglacheaaGreatDoorMClass
namespace Go.Proofs.YtncnfncglacheaaGreatDoor
open Go Go.RowKit Mem
set_option maxRecDepth 100000
theorem mkKey (w:World) (c:Nat) (hc:c≤1000000):(Instr.makeSlice 22 (.int .i64 0) (.int .i64 (c:Int))).run Tryz.prog w= .ok (.slice (some ⟨w.heap.size,0,none⟩) 0 c) (w.alloc (.cells ((List.replicate c (0:UInt8)).map u8V).toArray 5)):=by
 obtain ⟨i,z,hi,hz,hs,hb,_⟩:=elt8.hi
 have hzz:z= .int .u8 0:=by
  have h:(Tryz.prog.info? 5).bind (·.zero)=some (.int .u8 0):=by kernel_rfl
  rw [hi] at h
  exact Option.some.inj (hz.symm.trans h)
 have h:=run_make w 22 5 i z Tryz.underlying22 hi hz .i64 .i64 0 (c:Int) (by omega) (by omega) (by rw [hb];omega) (by omega)
 rw [Int.toNat_natCast,hs,hzz,Nat.mul_one] at h
 rw [h]
 show Result.ok _ (w.alloc (.cells (madeCells #[.int .u8 0] c) _))=_
 have e:madeCells #[.int .u8 0] c=((List.replicate c (0:UInt8)).map u8V).toArray:=by
  apply Array.toList_inj.1
  rw [toList_madeCells_one,List.map_replicate]
  rfl
 rw [e]
 rfl
theorem own_mkKey (w:World) (c:Nat) (hc:c≤1000000):Mem.Own u8V (w.alloc (.cells ((List.replicate c (0:UInt8)).map u8V).toArray 5)) w.heap.size 5 (.slice (some ⟨w.heap.size,0,none⟩) 0 c) []:=
 ⟨by simp, .inr ⟨w.heap.size,c,_,rfl,Nat.le_refl _,World.alloc_heap_new _ _,by simp,by unfold maxLen;omega,by simp,by simp⟩⟩
theorem beq_inst:(instBEqOfDecidableEq:BEq (List Nat))=(inferInstance:BEq (List Nat)):=by
 have h:∀a b:List Nat,(@BEq.beq _ instBEqOfDecidableEq a b)=(a==b):=fun a b=>by
  rw [Bool.eq_iff_iff];simp
 show BEq.mk _=_
 have e:(fun a b:List Nat=>decide (a=b))=fun a b=>(a==b):=by
  funext a b;exact h a b
 rw [e]
theorem idxOf_inst (l:List (List Nat)) (a:List Nat): @List.idxOf _ instBEqOfDecidableEq a l=l.idxOf a:=by rw [beq_inst]
theorem own_of_row {α:Type} {f:α→Value} {w:World} {b base:Nat} {t:TypeId} {l:List α} (h:Row f w b t l) (hb:base≤b) (hm:l.length≤maxLen):Mem.Own f w base t (.slice (some ⟨b,0,none⟩) l.length l.length) l:=
 ⟨by simp, .inr ⟨b,l.length,_,rfl,hb,h,Nat.le_refl _,hm,by simp,by rw [Nat.mul_one,List.toList_toArray,List.take_of_length_le (by simp)]⟩⟩
structure RefW (w wr:World) (tb:Nat) (T:TB) (vn va:OC):Prop where
 tab:TbR wr tb T vn va
 bel:Below tb w wr
 sz:tb+1≤wr.heap.size
section
variable {w wr w':World} {tb:Nat} {T:TB} {vn va:OC}
theorem RefW.grown (h:RefW w wr tb T vn va) {row:Option Nat} (hg:wr.grownBy w' row) (hr:∀b,row=some b→tb<b):RefW w w' tb T vn va:=
 ⟨⟨h.tab.row.grown hg (fun e=>by have:=hr _ e.symm;omega),h.tab.cl⟩,h.bel.grown hg (by have:=h.sz;omega) (fun k e=>by have:=hr _ e;omega),Nat.le_trans h.sz hg.size⟩
theorem RefW.alloc (h:RefW w wr tb T vn va) (o:Obj):RefW w (wr.alloc o) tb T vn va:=h.grown (World.grownBy_alloc wr o none) (fun _ e=>by cases e)
theorem RefW.set (h:RefW w wr tb T vn va) (b i:Nat) (v:Value) (hb:tb<b):RefW w (wr.setCell ⟨b,i,none⟩ v) tb T vn va:=h.grown (grown_cell wr b i v) (fun _ e=>by injection e with e;omega)
theorem RefW.under (h:RefW w wr tb T vn va) {B:Nat} (hb:Below B wr w') (hB:tb<B):RefW w w' tb T vn va:=⟨⟨h.tab.row.below hb hB,h.tab.cl⟩,h.bel.trans (hb.mono (by omega)),Nat.le_trans h.sz hb.size⟩
theorem RefW.below (h:RefW w wr tb T vn va) (hb:Below wr.heap.size wr w'):RefW w w' tb T vn va:=h.grown (Mem.grown_of_below hb none) (fun _ e=>by cases e)
end
set_option maxHeartbeats 16000000 in
theorem tRefine (w:World) (C:Array Value) (T:TB) (hC:TbAt w C T) (hT:T.Ok) (vl:Value) (l:List Nat) (hl:Rd nV w vl l) (hL:LOk T.nx.length l):
  Calls Tryz.prog 227 #[.agg C,vl] w fun e w'=>∃p1 c1 p2 c2,e= .returned (.tuple #[.slice p1 (T.refine l).1.length c1, .slice p2 (T.refine l).2.length c2])∧Mem.Own nV w' w.heap.size 3 (.slice p1 (T.refine l).1.length c1) (T.refine l).1∧Mem.Own nV w' w.heap.size 3 (.slice p2 (T.refine l).2.length c2) (T.refine l).2∧Below w.heap.size w w':=by
 obtain ⟨⟨vn,hvn⟩,⟨va,hva⟩,hCe,h1,h2,h3⟩:=hC
 obtain ⟨pn,kn,rfl⟩:=h1.slice
 obtain ⟨pa,ka,rfl⟩:=h2.slice
 obtain ⟨pl,kl,rfl⟩:=hl.slice
 have HN:=Lib.hid h1
 have HA:=Lib.hid h2
 have HLR:=Lib.hid hl
 have HT:=Lib.hid hT
 have HLO:=Lib.hid hL
 obtain ⟨n,Hn⟩:∃n,Hid (T.nx.length=n):=⟨_,Lib.hid rfl⟩
 have han:T.ac.length=n:=by rw [← Hn.out];exact hT.ac
 have g1:1≤n:=by rw [← Hn.out];exact hT.n1
 have g2:n≤65535:=by rw [← Hn.out];exact hT.nn
 have hln:=hL.len
 obtain ⟨L,HLL⟩:∃n,Hid (l.length=n):=⟨_,Lib.hid rfl⟩
 rw [Hn.out] at HN hCe hln
 rw [han] at HA hCe
 rw [HLL.out] at HLR hln ⊢
 have HLT:Hid (∀x∈l,x<n):=Lib.hid (by rw [← Hn.out];exact hL.lt)
 have HR:Hid (T.refine l=refF T.nx n l (L+1 - 0) (bl0 T.ac n l) 0):=Lib.hid (by rw [← Hn.out,← HLL.out];rfl)
 have HAN:=Lib.hid han
 clear h1 h2 hT hl hL han
 have hR0:RefW w (w.alloc (.cells C 166)) w.heap.size T ⟨.slice pn n kn,hvn⟩ ⟨.slice pa n ka,hva⟩:=⟨⟨Row.new _ _ (by rw [hCe]),h3⟩,(Below.refl _ _).alloc (Nat.le_refl _) _,by simp⟩
 have hS0:(w.alloc (.cells C 166)).heap.size=w.heap.size+1:=World.size_alloc _ _
 clear hCe
 go_enter Tryz.func227,Tryz.ntmps227
 go_upto_region 1 with (fail)
 obtain ⟨tb,Htb⟩:∃tb,Hid (w.heap.size=tb):=⟨_,Lib.hid rfl⟩
 generalize (w.alloc (.cells C 166))=W at hR0 hS0 ⊢
 rw [Htb.out] at hR0 hS0 ⊢
 have c257:=hR0.tab.nx
 obtain ⟨MB,hMB⟩:∃C,Hid (C=((List.replicate n 0).map nV).toArray):=⟨_,Lib.hid rfl⟩
 have hmk:∀w:World,(Instr.makeSlice 92 (.int .i64 (n:Int)) (.int .i64 (n:Int))).run Tryz.prog w= .ok (.slice (some ⟨w.heap.size,0,none⟩) n n) (w.alloc (.cells MB 3)):=fun w=>by rw [hMB.out];exact mkIntN w n (by omega)
 have HMK:=Lib.hid hmk
 have hBl:Row nV (W.alloc (.cells MB 3)) W.heap.size 3 (List.replicate n 0):=by rw [hMB.out];exact Row.new _ _ rfl
 have hR1:=hR0.alloc (.cells MB 3)
 rw [hS0] at hBl
 go_upto_region 2 with (fail)
 generalize (W.alloc (.cells MB 3))=W1 at hBl hR1 ⊢
 clear hR0 hS0 c257 hmk
 clear W
 go_wp2_with fail
 go_loopw [26] (fun s26 wr=>∃k:Nat,k≤L∧s26= .int .i64 k∧Row nV wr (tb+1) 3 ((l.take k).foldl (bstep T.ac) (List.replicate n 0))∧RefW w wr tb T ⟨.slice pn n kn,hvn⟩ ⟨.slice pa n ka,hva⟩) (fun s26 _=>L - (intOf s26).toNat)
 case atStart=>exact ⟨0,by omega,rfl,hBl,hR1⟩
 case round=>
  clear hBl hR1
  obtain ⟨k,hk,rfl,hBl,hRw⟩:=hrel
  by_cases hlt:k<L
  ·have hq:(k:Int)<(L:Int):=by omega
   have hkl:k<l.length:=by rw [HLL.out];exact hlt
   obtain ⟨lb,lo,rfl,hcl⟩:=rdN_at HLR.out k hlt
   have cl:=hcl wr (by rw [Htb.out];exact hRw.bel)
   have hs:l.getD k 0<n:=HLT.out _ (getD_mem _ _ _ hkl)
   have HST:Hid ((l.take (k+1)).foldl (bstep T.ac) (List.replicate n 0)=bstep T.ac ((l.take k).foldl (bstep T.ac) (List.replicate n 0)) (l.getD k 0)):=Lib.hid (by
    rw [foldl_take_succ _ _ _ _ hkl,List.getD_eq_getElem?_getD,List.getElem?_eq_getElem hkl];rfl)
   have hbl:=(bl0_take T.ac n l k (by omega)).1
   generalize l.getD k 0=s at *
   generalize (l.take k).foldl (bstep T.ac) (List.replicate n 0)=bl at *
   obtain ⟨ab,ao,rfl,hca⟩:=rdB_at HA.out s hs
   have ca:=hca wr (by rw [Htb.out];exact hRw.bel)
   have c258:=hRw.tab.ac
   have hsi:(s:Int)<(n:Int):=by omega
   clear hcl hca
   cases hac:T.ac.getD s false with
   | false=>
    rw [hac] at ca
    have HB1:Hid (bl=(l.take (k+1)).foldl (bstep T.ac) (List.replicate n 0)):=Lib.hid (by rw [HST.out,bstep,hac];rfl)
    go_wp2_with fail
    go_roundw
    case rel=>exact ⟨k+1,by omega,by go_num,by rw [← HB1.out];exact hBl,hRw⟩
    case measure=>simp [intOf];omega
   | true=>
    rw [hac] at ca
    have HB1:Hid (bl.set s 1=(l.take (k+1)).foldl (bstep T.ac) (List.replicate n 0)):=Lib.hid (by rw [HST.out,bstep,hac];rfl)
    have co:=rowN_at hBl s (by rw [hbl];exact hs)
    have fo:=hBl.frozen s
    have hBl':=hBl.set s 1
    have hRw':=hRw.set (tb+1) s (nV 1) (by omega)
    clear hBl hRw
    go_wp2_with fail
    go_roundw
    case rel=>exact ⟨k+1,by omega,by go_num,by rw [← HB1.out];exact hBl',hRw'⟩
    case measure=>simp [intOf];omega
  ·obtain rfl:k=L:=by omega
   rw [List.take_of_length_le (by rw [HLL.out];exact Nat.le_refl _)] at hBl
   have hb0:∀x∈bl0 T.ac n l,x<65536:=by
    have h:=(bl0_take T.ac n l l.length (Nat.le_refl _)).2
    rw [List.take_length] at h
    intro x hx
    have:=h x hx;omega
   have hb1:(bl0 T.ac n l).length=n:=by
    have h:=(bl0_take T.ac n l l.length (Nat.le_refl _)).1
    rw [List.take_length] at h
    exact h
   have hmm:= @run_makeMap Tryz.prog
   replace hBl:Row nV wr (tb+1) 3 (bl0 T.ac n l):=hBl
   clear hk hlt
   go_wp2_with fail
   go_loopw [6,9] (fun s6 s9 wr=>∃(bb c:Nat) (bl:List Nat),s6= .slice (some ⟨bb,0,none⟩) n n∧s9= .int .i64 c∧Row nV wr bb 3 bl∧tb<bb∧bl.length=n∧Hid (∀x∈bl,x<65536)∧c≤k∧Hid (T.refine l=refF T.nx n l (k+1 - c) bl c)∧Hid (∀i,i<c→∃s∈l,bl.getD s 0=i)∧RefW w wr tb T ⟨.slice pn n kn,hvn⟩ ⟨.slice pa n ka,hva⟩) (fun _ s9 _=>k+1 - (intOf s9).toNat)
   case atStart=>exact ⟨tb+1,0,_,rfl,rfl,hBl,by omega,hb1,Lib.hid hb0,by omega,HR,Lib.hid (fun i hi=>by omega),hRw⟩
   case round=>
    clear hBl hb0 hb1 HR hRw
    obtain ⟨bb,c,bl,rfl,rfl,hBl,hbb,hbn,HBB,hc,HR,HIT,hRw⟩:=hrel
    have HBN:=Lib.hid hbn
    have hbl:=hBl.lt
    have hmp:MapI okN encN Tryz.prog 9 3 (wr.alloc (.map #[] 0)) wr.heap.size []:=MapI.made wr
    have hBl1:=hBl.alloc (.map #[] 0)
    have hRw1:=hRw.alloc (.map #[] 0)
    have hS1:(wr.alloc (.map #[] 0)).heap.size=wr.heap.size+1:=World.size_alloc _ _
    go_upto_region 10 with (fail)
    have htm:=hRw.sz
    generalize hmb:wr.heap.size=mb at hmp hS1 hbl htm ⊢
    generalize (wr.alloc (.map #[] 0))=W2 at hmp hBl1 hRw1 hS1 ⊢
    clear hBl hRw hmb
    have hmk:=HMK.out
    have hNx:Row nV (W2.alloc (.cells MB 3)) W2.heap.size 3 (rs0 n).nxt:=by rw [hMB.out];exact Row.new _ _ rfl
    have hmp3:=hmp.alloc (.cells MB 3)
    have hBl3:=hBl1.alloc (.cells MB 3)
    have hRw3:=hRw1.alloc (.cells MB 3)
    have hS3:mb+2≤(W2.alloc (.cells MB 3)).heap.size:=by rw [World.size_alloc];omega
    rw [hS1] at hNx
    go_upto_region 11 with (fail)
    clear hmk
    generalize (W2.alloc (.cells MB 3))=W3 at hNx hmp3 hBl3 hRw3 hS3 ⊢
    clear hmp hBl1 hRw1 hS1
    clear W2
    have hO3:=Own.nil (f:=nV) W3 (mb+2) 3
    have hst0:(l.take 0).foldl (rstep T.nx bl) (rs0 n)=rs0 n:=rfl
    go_wp2_with fail
    go_loopw [12,45] (fun s12 s45 wr=>∃(j:Nat) (st:RS) (pr:Option Addr) (kr:Nat),j≤k∧s45= .int .i64 j∧Hid ((l.take j).foldl (rstep T.nx bl) (rs0 n)=st)∧s12= .slice pr st.rs.length kr∧Mem.Own nV wr (mb+2) 3 (.slice pr st.rs.length kr) st.rs∧Row nV wr (mb+1) 3 st.nxt∧MapI okN encN Tryz.prog 9 3 wr mb st.ks∧Row nV wr bb 3 bl∧RefW w wr tb T ⟨.slice pn n kn,hvn⟩ ⟨.slice pa n ka,hva⟩∧mb+2≤wr.heap.size) (fun _ s45 _=>k - (intOf s45).toNat)
    case atStart=>exact ⟨0,rs0 n,none,0,by omega,rfl,Lib.hid rfl,rfl,hO3,hNx,hmp3,hBl3,hRw3,hS3⟩
    case round=>
     clear hO3 hNx hmp3 hBl3 hRw3 hS3 hst0 hbn
     obtain ⟨j,st,pr,kr,hj,rfl,HST,rfl,hO,hNx,hMp,hBl,hRw,hS⟩:=hrel
     have hok:=rnd_take_ok (nx:=T.nx) (bl:=bl) (n:=n) (l:=l) (by rw [← Hn.out];exact HLO.out) j (by rw [HLL.out];exact hj)
     rw [HST.out] at hok
     have HOK:=Lib.hid hok
     clear hok
     by_cases hlt:j<k
     ·have hq:(j:Int)<(k:Int):=by omega
      have hjl:j<l.length:=by rw [HLL.out];exact hlt
      obtain ⟨lb,lo,rfl,hcl⟩:=rdN_at HLR.out j hlt
      have cl:=hcl wr (by rw [Htb.out];exact hRw.bel)
      have hs:l.getD j 0<n:=HLT.out _ (getD_mem _ _ _ hjl)
      have HSN:Hid (l.getD j 0∉l.take j):=Lib.hid (fun hm=>by
       obtain ⟨i,hi,e⟩:=List.mem_take_iff_getElem.1 hm
       rw [List.getD_eq_getElem?_getD,List.getElem?_eq_getElem hjl] at e
       have:=(List.getElem_inj (xs:=l) HLO.out.nd).1 e
       omega)
      have HST1:Hid ((l.take (j+1)).foldl (rstep T.nx bl) (rs0 n)=rstep T.nx bl st (l.getD j 0)):=Lib.hid (by
       rw [foldl_take_succ _ _ _ _ hjl,HST.out,List.getD_eq_getElem?_getD,List.getElem?_eq_getElem hjl];rfl)
      generalize l.getD j 0=s at *
      have hsi:(s:Int)<(n:Int):=by omega
      have hW1:Below w.heap.size w wr:=by rw [Htb.out];exact hRw.bel
      obtain ⟨nb,no,rq,rd,rfl,hnn,hnb,hcr,hrow⟩:=rows_at HN.out s (by rw [Hn.out];exact hs)
      have cr:wr.cell? ⟨nb,no+s,none⟩=some (.slice rq (T.nx.getD s []).length rd):=(hW1.cell (p:=⟨nb,no+s,none⟩) hnb).trans hcr
      have HCR:Hid (∀X,Below w.heap.size w X→X.cell? ⟨nb,no+s,none⟩=some (.slice rq (T.nx.getD s []).length rd)):=Lib.hid fun X hX=>(hX.cell (p:=⟨nb,no+s,none⟩) hnb).trans hcr
      have HROW:=Lib.hid hrow
      have HRT:Hid (∀t∈T.nx.getD s [],t<n):=Lib.hid (row_lt (by rw [← Hn.out];exact HT.out.rb) _)
      have hrm:(T.nx.getD s []).length≤256:=by rw [HT.out.rw _ (getD_mem _ _ _ (by rw [Hn.out];exact hs))];exact HT.out.c256
      have c257:=hRw.tab.nx
      obtain ⟨row,Hrow⟩:∃r,Hid (T.nx.getD s []=r):=⟨_,Lib.hid rfl⟩
      rw [Hrow.out] at HROW HRT hrm cr HCR
      obtain ⟨m,Hm⟩:∃m,Hid (row.length=m):=⟨_,Lib.hid rfl⟩
      rw [Hm.out] at HROW hrm cr HCR
      obtain ⟨KB,hKB⟩:∃C,Hid (C=((List.replicate (2+2 * m) (0:UInt8)).map u8V).toArray):=⟨_,Lib.hid rfl⟩
      have hmk:∀w:World,(Instr.makeSlice 22 (.int .i64 0) (.int .i64 (2+2 * (m:Int)))).run Tryz.prog w= .ok (.slice (some ⟨w.heap.size,0,none⟩) 0 (2+2 * m)) (w.alloc (.cells KB 5)):=fun w=>by
       have h:=mkKey w (2+2 * m) (by omega)
       rw [hKB.out,← h]
       congr 2
      have hOK0:Mem.Own u8V (wr.alloc (.cells KB 5)) wr.heap.size 5 (.slice (some ⟨wr.heap.size,0,none⟩) 0 (2+2 * m)) []:=by rw [hKB.out];exact own_mkKey wr (2+2 * m) (by omega)
      have hO4:=hO.alloc (.cells KB 5)
      have hNx4:=hNx.alloc (.cells KB 5)
      have hMp4:=hMp.alloc (.cells KB 5)
      have hBl4:=hBl.alloc (.cells KB 5)
      have hRw4:=hRw.alloc (.cells KB 5)
      have hS4:(wr.alloc (.cells KB 5)).heap.size=wr.heap.size+1:=World.size_alloc _ _
      have hOlt:=fun g hg=>(hO.lt g hg).2
      have hMlt:=hMp.lt
      clear hcl hW1 hcr hrow hnn
      go_upto_region 16 with (fail)
      have hKs:mb+2≤wr.heap.size:=hS
      generalize hkb:wr.heap.size=kb at hOK0 hS4 hKs hOlt hMlt ⊢
      generalize (wr.alloc (.cells KB 5))=W4 at hOK0 hO4 hNx4 hMp4 hBl4 hRw4 hS4 ⊢
      clear hO hNx hMp hBl hRw hS hmk cl cr c257 hkb
      have hsb:s<bl.length:=by rw [HBN.out];exact hs
      have hb0:bl.getD s 0<65536:=HBB.out _ (getD_mem _ _ _ hsb)
      have c0:=rowN_at hBl4 s hsb
      have HKO:Hid (rowKey T.nx bl s=bl.getD s 0::row.map fun t=>bl.getD t 0):=Lib.hid (by rw [← Hrow.out];rfl)
      generalize bl.getD s 0=b0 at *
      have hBk:kb≤W4.heap.size:=by omega
      have HS4:=Lib.hid hS4
      clear hS4
      have HU1:Hid (Value.int .u8 (IntKind.u8.wrap (b0:Int))=u8V (UInt8.ofNat b0)):=Lib.hid (by unfold u8V;rw [UInt8.toNat_ofNat',IntKind.wrap_u8];congr 1)
      have HU2:Hid (Value.int .u8 (IntKind.u8.wrap ((b0:Int) / 256))=u8V (UInt8.ofNat (b0 / 256))):=Lib.hid (by unfold u8V;rw [UInt8.toNat_ofNat',IntKind.wrap_u8];congr 1)
      go_cut [15] (fun s15 wx=>∃pk ck,s15= .slice pk 2 ck∧Mem.Own u8V wx kb 5 (.slice pk 2 ck) (enc2 [b0])∧Below kb W4 wx)
      ·go_wp2_with fail
       go_region_law ((go_loud (refine step_append2_drew (w:=W4) (f:=u8V) (base:=kb) (l:=[]) (v:= .slice (some ⟨kb,0,none⟩) 0 (2+2 * m)) elt8 (.tmp 58) (.tmp 70) 22 ?_ ?_ rfl u8V_one ?_ hOK0 (UInt8.ofNat b0) (UInt8.ofNat (b0 / 256)) (.int .u8 (IntKind.u8.wrap (b0:Int))) (.int .u8 (IntKind.u8.wrap ((b0:Int) / 256))) HU1.out HU2.out 5 ?_ ?_ ?_ hBk (enc2 [b0]) rfl ?_));rfl;rfl;rfl;rfl;simp;simp;intro p3 c3 w3 hO3 hG3 hW3)
       all_goals
        have hb3:Below kb W4 w3:=((Below.refl kb W4).alloc hBk _).grown hG3 (by simp;omega) (fun q e=>by have e':some kb=some q:=e;cases e';omega)
        rw [enc2_length] at hO3
        go_wp2
        go_meet
        exact ⟨p3,c3,rfl,hO3,hb3⟩
      ·obtain ⟨pk,ck,rfl,hOK,hbK⟩:=hcut
       clear hOK0 HU1 HU2
       have hRwc:=hRw4.under hbK (by omega)
       have c257:=hRwc.tab.nx
       have cr:=HCR.out wc (by rw [Htb.out];exact hRwc.bel)
       have hmi:(m:Int)≤256:=by omega
       go_wp2_with fail
       go_loopw [15,78] (fun s15 s78 wq=>∃(i:Nat) (pk:Option Addr) (ck:Nat),i≤m∧s78= .int .i64 i∧s15= .slice pk (2+2 * i) ck∧Mem.Own u8V wq kb 5 (.slice pk (2+2 * i) ck) (enc2 (b0::(row.take i).map fun t=>bl.getD t 0))∧Below kb W4 wq) (fun _ s78 _=>m - (intOf s78).toNat)
       case atStart=>exact ⟨0,pk,ck,by omega,rfl,rfl,hOK,hbK⟩
       case round=>
        clear hOK hbK hRwc c257 cr
        obtain ⟨i,pk,ck,him,rfl,rfl,hOK,hbK⟩:=hrel
        by_cases hil:i<m
        ·have hq2:(i:Int)<(m:Int):=by omega
         obtain ⟨rb,ro,rfl,hct⟩:=rdN_at HROW.out i hil
         have hRwq:=hRw4.under hbK (by omega)
         have ct:=hct wr (by rw [Htb.out];exact hRwq.bel)
         have hirl:i<row.length:=by rw [Hm.out];exact hil
         have ht:row.getD i 0<n:=HRT.out _ (getD_mem _ _ _ hirl)
         have HTK:Hid ((row.take (i+1)).map (fun t=>bl.getD t 0)=(row.take i).map (fun t=>bl.getD t 0)++[bl.getD (row.getD i 0) 0]):=Lib.hid (by
          have e:row.getD i 0=row[i]:=by rw [List.getD_eq_getElem?_getD,List.getElem?_eq_getElem hirl];rfl
          rw [List.take_succ_eq_append_getElem hirl,List.map_append,e];rfl)
         generalize row.getD i 0=t at *
         have hti:(t:Int)<(n:Int):=by omega
         have htb:t<bl.length:=by rw [HBN.out];exact ht
         have hb1:bl.getD t 0<65536:=HBB.out _ (getD_mem _ _ _ htb)
         have hBlq:=hBl4.below hbK (by omega)
         have c1:=rowN_at hBlq t htb
         generalize bl.getD t 0=b1 at *
         obtain ⟨kk,HKK⟩:∃kk,Hid (b0::(row.take i).map (fun t=>bl.getD t 0)=kk):=⟨_,Lib.hid rfl⟩
         have HK2:Hid (enc2 (b0::(row.take (i+1)).map fun t=>bl.getD t 0)=enc2 kk++[UInt8.ofNat b1,UInt8.ofNat (b1 / 256)]):=Lib.hid (by
          rw [HTK.out,← HKK.out,← List.cons_append,enc2_append];rfl)
         rw [HKK.out] at hOK
         have HKL:Hid ((enc2 kk).length=2+2 * i):=Lib.hid (by
          rw [enc2_length,← HKK.out,List.length_cons,List.length_map,List.length_take,Hm.out];omega)
         have hBk2:kb≤wr.heap.size:=Nat.le_trans hBk hbK.size
         have HU1:Hid (Value.int .u8 (IntKind.u8.wrap (b1:Int))=u8V (UInt8.ofNat b1)):=Lib.hid (by unfold u8V;rw [UInt8.toNat_ofNat',IntKind.wrap_u8];congr 1)
         have HU2:Hid (Value.int .u8 (IntKind.u8.wrap ((b1:Int) / 256))=u8V (UInt8.ofNat (b1 / 256))):=Lib.hid (by unfold u8V;rw [UInt8.toNat_ofNat',IntKind.wrap_u8];congr 1)
         have hl1:((enc2 kk).length+2) * 1≤140737488355328:=by rw [HKL.out];omega
         obtain ⟨rr,Hrr⟩:∃rr,Hid (enc2 kk++[UInt8.ofNat b1,UInt8.ofNat (b1 / 256)]=rr):=⟨_,Lib.hid rfl⟩
         clear hct hRwq hBlq
         go_wp2_with fail
         go_region_law ((go_loud (refine step_append2_drew (w:=wr) (f:=u8V) (base:=kb) (l:=enc2 kk) (v:= .slice pk (2+2 * i) ck) elt8 (.tmp 82) (.tmp 94) 22 ?_ ?_ rfl u8V_one ?_ hOK (UInt8.ofNat b1) (UInt8.ofNat (b1 / 256)) (.int .u8 (IntKind.u8.wrap (b1:Int))) (.int .u8 (IntKind.u8.wrap ((b1:Int) / 256))) HU1.out HU2.out 5 ?_ hl1 ?_ hBk2 rr Hrr.out ?_));rfl;rfl;rfl;rfl;(rw [HKL.out];omega);intro p3 c3 w3 hO3 hG3 hW3)
         all_goals
          have hb3:Below kb W4 w3:=(hbK.alloc hBk2 _).grown hG3 (by simp;omega) (fun q e=>(hOK.lt q e).1)
          have hl3:rr.length=2+2 * (i+1):=by rw [← Hrr.out,List.length_append,HKL.out];simp;omega
          rw [hl3] at hO3
          rw [← Hrr.out,← HK2.out] at hO3
          rw [hl3]
          clear hl3 hl1 hOK hbK hG3 hW3 c1
          go_wp2
          go_roundw
          case rel=>exact ⟨i+1,p3,c3,by omega,by go_num,rfl,hO3,hb3⟩
          case measure=>simp [intOf];omega
        ·have hq2:¬(i:Int)<(m:Int):=by omega
         obtain rfl:i=m:=by omega
         have hki:(b0::(row.take i).map fun t=>bl.getD t 0)=rowKey T.nx bl s:=by
          rw [HKO.out,List.take_of_length_le (by rw [Hm.out];exact Nat.le_refl _)]
         rw [hki] at hOK
         have HON:Hid (okN (rowKey T.nx bl s)):=Lib.hid (by
          rw [HKO.out]
          intro x hx
          rcases List.mem_cons.1 hx with rfl | hx
          ·exact hb0
          ·obtain ⟨t,ht,rfl⟩:=List.mem_map.1 hx
           exact HBB.out _ (getD_mem _ _ _ (by rw [HBN.out];exact HRT.out t ht)))
         have HKLEN:Hid ((enc2 (rowKey T.nx bl s)).length≤1000):=Lib.hid (by rw [enc2_length,HKO.out,List.length_cons,List.length_map,Hm.out];omega)
         have hst1:=HST1.out
         unfold rstep at hst1
         have HST1b:=Lib.hid hst1
         clear hst1 HST1 hki
         have hOq:=hO4.below hbK hOlt
         have hNxq:=hNx4.below hbK (by omega)
         have hBlq:=hBl4.below hbK (by omega)
         have hRwq:=hRw4.under hbK (by omega)
         have hMpq:=hMp4.block (hbK.block mb hMlt)
         have hSq:mb+2≤wr.heap.size:=Nat.le_trans hKs (Nat.le_trans hBk hbK.size)
         have hcv:=run_convert_rd (P:=Tryz.prog) Tryz.underlying22 Tryz.underlying5 Tryz.underlying9 hOK.rd
         have HOKr:=Lib.hid hOK.rd
         clear hO4 hNx4 hBl4 hRw4 hMp4 hbK hOlt hOK hKs hBk c0 HKO HCR HROW
         obtain ⟨ky,Hky⟩:∃ky,Hid (rowKey T.nx bl s=ky):=⟨_,Lib.hid rfl⟩
         rw [Hky.out] at hcv HON HKLEN HST1b HOKr
         have HKey:Hid (Go.keyOf Tryz.prog 9 (.string ⟨(enc2 ky).toArray⟩)=some (encN ky)):=Lib.hid (WideMaps.keyOf_string_mk Tryz.underlying9 (by have:=HKLEN.out;unfold maxLen ByteArray.size;simp;omega))
         have hz:∀w:World,(zeroValue 3).run Tryz.prog w= .ok (.int .i64 0) w:=fun w=>by kernel_rfl
         have hsn:=HSN.out
         have hnl:s<st.nxt.length:=by rw [HOK.out.nl];exact hs
         have HLEN:=Lib.hid HOK.out.len
         have hle:=HOK.out.le
         rw [List.length_take,HLL.out] at hle
         by_cases hm:ky∈st.ks
         ·rw [if_pos hm] at HST1b
          obtain ⟨q,Hq⟩:∃q,Hid (@List.idxOf _ instBEqOfDecidableEq ky st.ks=q):=⟨_,Lib.hid rfl⟩
          rw [← idxOf_inst,Hq.out] at HST1b
          have HM:=Lib.hid hm
          clear hm
          go_upto_region 27 with (at_lookup;(with_reducible refine map_look_yes hMpq ?_ (.tmp 98) (.tmp 100) ?_ (Maps.string_keyed Tryz.underlying9) Tryz.underlying249 Tryz.underlying3 (hz _) ?_ ky HON.out HM.out q Hq.out _ ?_ HKey.out ?_);rfl;rfl;rfl;rfl)
          have c3:=rowN_at hNxq s hnl
          have f3:=hNxq.frozen s
          have hG:=grown_cell wr (mb+1) s (.int .i64 (q:Int))
          have hNx5:=hNxq.set s q
          have hO5:=hOq.kept hG (fun g hg e=>by have:=(hOq.lt g hg).1;injection e with e;omega)
          have hMp5:=hMpq.kept hG (by simp)
          have hBl5:=hBlq.grown hG (by simp;omega)
          have hRw5:=hRwq.grown hG (fun b e=>by injection e with e;omega)
          have hS5:=Nat.le_trans hSq hG.size
          replace hNx5:Row nV (wr.setCell ⟨mb+1,s,none⟩ (.int .i64 (q:Int))) (mb+1) 3 (st.nxt.set s q):=hNx5
          clear hOq hNxq hMpq hBlq hRwq hSq hG hcv
          go_wp2_with fail
          go_roundw
          case rel=>exact ⟨j+1,_,pr,kr,by omega,by go_num,HST1b,rfl,hO5,hNx5,hMp5,hBl5,hRw5,hS5⟩
          case measure=>simp [intOf];omega
         ·rw [if_neg hm] at HST1b
          have HM:=Lib.hid hm
          clear hm
          go_upto_region 24 with (at_lookup;(with_reducible refine map_look_no hMpq ?_ (.tmp 98) (.tmp 100) ?_ (Maps.string_keyed Tryz.underlying9) Tryz.underlying249 Tryz.underlying3 (hz _) ?_ ky HON.out HM.out _ ?_ HKey.out ?_);rfl;rfl;rfl;rfl)
          clear hcv
          go_upto_region 25 with (fail)
          have hcv:=run_convert_rd (P:=Tryz.prog) Tryz.underlying22 Tryz.underlying5 Tryz.underlying9 HOKr.out
          have hkl:st.ks.length<1000000000:=by rw [← HLEN.out];omega
          go_upto_region 26 with (at_mapUpdate;(with_reducible refine map_put hMpq ?_ (.tmp 108) (.tmp 110) (.tmp 111) ?_ (Maps.string_keyed Tryz.underlying9) Tryz.underlying249 Tryz.underlying3 encN_inj encN_key ?_ ky HON.out HM.out hkl _ ?_ HKey.out ?_ ?_);rfl;rfl;rfl;rfl;(exact congrArg (fun n:Nat=>Value.int .i64 (n:Int)) HLEN.out);(intro W7 hMp7 hG7))
          have hO7:=hOq.kept hG7 (fun g hg e=>by have:=(hOq.lt g hg).1;injection e with e;omega)
          have hNx7:=hNxq.grown hG7 (by simp)
          have hBl7:=hBlq.grown hG7 (by simp;omega)
          have hRw7:=hRwq.grown hG7 (fun b e=>by injection e with e;omega)
          have hS7:=Nat.le_trans hSq hG7.size
          have hrl:st.rs.length≤65535:=by omega
          clear hOq hNxq hMpq hBlq hRwq hSq hG7 hcv
          go_upto_region 27 with (at_builtin;(with_reducible refine append_one eltNI (.tmp 112) (.tmp 114) ?_ ?_ nV_one ?_ hO7 s _ ?_ _ ?_ ?_ ?_ ?_ (st.rs++[s]) ?_ ?_);rfl;rfl;rfl;rfl;rfl;(omega);(omega);(exact hS7);rfl;(intro p8 c8 W8 hO8 hB8 hG8))
          have hne:∀b,b<mb+2→some b≠(Value.slice pr st.rs.length kr).ownBlock:=fun b hb e=>by have:=(hO7.lt b e.symm).1;omega
          have hNx8:=(hNx7.alloc (.cells #[.int .i64 (s:Int)] 3)).grown hG8 (hne _ (by omega))
          have hMp8:=(hMp7.alloc (.cells #[.int .i64 (s:Int)] 3)).kept hG8 (hne _ (by omega))
          have hBl8:=(hBl7.alloc (.cells #[.int .i64 (s:Int)] 3)).grown hG8 (hne _ (by omega))
          have hRw8:=(hRw7.alloc (.cells #[.int .i64 (s:Int)] 3)).grown hG8 (fun b e=>by have:=(hO7.lt b e).1;omega)
          have hS8:=Nat.le_trans hS7 hB8.size
          clear hO7 hNx7 hMp7 hBl7 hRw7 hS7 hB8 hG8 hne
          have c3:=rowN_at hNx8 s hnl
          have f3:=hNx8.frozen s
          have hG:=grown_cell W8 (mb+1) s (.int .i64 (st.rs.length:Int))
          have hNx5:=hNx8.set s st.ks.length
          have hO5:=hO8.kept hG (fun g hg e=>by have:=(hO8.lt g hg).1;injection e with e;omega)
          have hMp5:=hMp8.kept hG (by simp)
          have hBl5:=hBl8.grown hG (by simp;omega)
          have hRw5:=hRw8.grown hG (fun b e=>by injection e with e;omega)
          have hS5:=Nat.le_trans hS8 hG.size
          replace hNx5:Row nV (W8.setCell ⟨mb+1,s,none⟩ (.int .i64 (st.rs.length:Int))) (mb+1) 3 (st.nxt.set s st.ks.length):=by rw [HLEN.out];exact hNx5
          have hlr:(st.rs++[s]).length=st.rs.length+1:=by simp
          rw [hlr] at hO5
          have HLR2:Hid (Value.slice p8 (st.rs.length+1) c8= .slice p8 (st.rs++[s]).length c8):=Lib.hid (by rw [hlr])
          clear hO8 hNx8 hMp8 hBl8 hRw8 hS8 hG hlr
          go_wp2_with fail
          go_roundw
          case rel=>exact ⟨j+1,_,p8,c8,by omega,by go_num,HST1b,HLR2.out,by rw [← HLR2.out];exact hO5,hNx5,hMp5,hBl5,hRw5,hS5⟩
          case measure=>simp [intOf];omega
     ·have hq:¬(j:Int)<(k:Int):=by omega
      have hjk:j=k:=by omega
      have hst:rnd T.nx bl n l=st:=by
       rw [← HST.out,hjk,List.take_of_length_le (by rw [HLL.out];exact Nat.le_refl _)];rfl
      have HOKL:=HOK.out
      rw [hjk,List.take_of_length_le (by rw [HLL.out];exact Nat.le_refl _)] at HOKL
      have HOF:=Lib.hid HOKL
      have hstep:=refF_step (nx:=T.nx) (n:=n) (l:=l) (k+1) c bl (by omega)
      rw [hst] at hstep
      have hgr:=rnd_grows (nx:=T.nx) (bl:=bl) (n:=n) (l:=l) (by rw [← Hn.out];exact HLO.out) HIT.out
      rw [hst] at hgr
      have hle:st.rs.length≤k:=by have:=HOF.out.le;rw [HLL.out] at this;exact this
      have hnl:=HOF.out.nl
      by_cases hcn:st.rs.length=c
      ·rw [if_pos hcn,← HR.out] at hstep
       have HE:=Lib.hid hstep
       have e1:((st.rs.length:Int)==(c:Int))=true:=by rw [beq_iff_eq];omega
       have hcn':(st.rs.length:Int)=(c:Int):=by omega
       have HON:=Lib.hid (own_of_row (base:=tb) hNx (by omega) (by rw [hnl];unfold maxLen;omega))
       have HBF:=Lib.hid hRw.bel
       have HOR:=Lib.hid (hO.mono (by omega:tb≤mb+2))
       clear hstep hst hgr HOKL hNx hMp hBl hRw hO
       go_wp2_with fail
       go_ret2
       refine ⟨some ⟨mb+1,0,none⟩,n,pr,kr,?_,?_,?_,by rw [Htb.out];exact HBF.out⟩
       ·rw [HE.out];show _=Ending.returned (.tuple #[.slice _ st.nxt.length _, .slice _ st.rs.length _]);rw [hnl,hcn];rfl
       ·rw [HE.out,Htb.out];have h:=HON.out;rw [hnl] at h;show Mem.Own nV _ _ _ (.slice _ st.nxt.length _) st.nxt;rw [hnl];exact h
       ·rw [HE.out,Htb.out];exact HOR.out
      ·rw [if_neg hcn,← HR.out] at hstep
       have HE:Hid (T.refine l=refF T.nx n l (k+1 - st.rs.length) st.nxt st.rs.length):=Lib.hid (by
        rw [hstep]
        refine refF_fuel (by rw [← Hn.out];exact HLO.out) _ _ _ _ (by rw [HLL.out];omega) (by rw [HLL.out];omega) HOF.out.hit)
       have e1:((st.rs.length:Int)==(c:Int))=false:=by rw [beq_eq_false_iff_ne];omega
       have hcn':¬(st.rs.length:Int)=(c:Int):=by omega
       have HB2:Hid (∀x∈st.nxt,x<65536):=Lib.hid fun x hx=>by
        have h1:=HOF.out.nb x hx
        have h2:=HOF.out.len
        omega
       have hcl:c<st.rs.length:=by omega
       have HHIT:=Lib.hid HOF.out.hit
       have hrl:(st.rs.length:Int)≤65535:=by omega
       clear hstep hst hgr HOKL hMp hBl hO hcn
       go_wp2_with fail
       go_roundw
       case rel=>exact ⟨mb+1,st.rs.length,st.nxt,rfl,rfl,hNx,by omega,hnl,HB2,hle,HE,HHIT,hRw⟩
       case measure=>simp [intOf];omega
end Go.Proofs.YtncnfncglacheaaGreatDoor
namespace Go.Proofs.YtncnfncglacheaaGreatDoor
open Go Go.RowKit Mem
set_option maxRecDepth 100000
theorem eltKC:EltK Tryz.prog 33 65 4 32:=EltK.mk' (z:= .agg #[.int .u64 0, .int .u64 0, .int .u64 0, .int .u64 0]) Tryz.underlying33 (by kernel_rfl) rfl
theorem clL_len4 (c:Cl):(clL c).length=4:=rfl
def zV (n:Int):Value:= .int .i64 n
theorem rowI_at {w:World} {b:Nat} {t:TypeId} {l:List Int} (h:Row zV w b t l) (k:Nat) (hk:k<l.length):w.cell? ⟨b,k,none⟩=some (.int .i64 (l.getD k 0)):=by
 rw [h.cell?,List.getElem?_eq_getElem hk,List.getD_eq_getElem?_getD,List.getElem?_eq_getElem hk];rfl
structure MgW (w wr:World) (tb:Nat) (T:TB) (vn va:OC) (p9:Option Addr) (c9:Nat) (p10:Option Addr) (c10:Nat) (M:MS):Prop where
 cells:Mem.Own nV wr (tb+3) 3 (.slice p9 M.cells.length c9) M.cells
 cls:OwnK 4 clL wr (tb+3) 65 (.slice p10 M.cls.length c10) M.cls
 of:Row zV wr (tb+2) 3 M.of
 map:MapI okN encN Tryz.prog 9 3 wr (tb+1) M.ks
 rf:RefW w wr tb T vn va
 sz:tb+3≤wr.heap.size
section
variable {w wr w':World} {tb:Nat} {T:TB} {vn va:OC} {p9 p10:Option Addr} {c9 c10:Nat} {M:MS}
theorem MgW.under (h:MgW w wr tb T vn va p9 c9 p10 c10 M) (hb:Below wr.heap.size wr w'):MgW w w' tb T vn va p9 c9 p10 c10 M:=
 ⟨h.cells.below' hb,h.cls.below' hb,h.of.below hb h.of.lt,h.map.below hb,h.rf.below hb,Nat.le_trans h.sz hb.size⟩
theorem MgW.setOf (h:MgW w wr tb T vn va p9 c9 p10 c10 M) (c:Nat) (q:Int):MgW w (wr.setCell ⟨tb+2,c,none⟩ (zV q)) tb T vn va p9 c9 p10 c10 {M with of:=M.of.set c q}:=by
 have hG:=grown_cell wr (tb+2) c (zV q)
 exact ⟨h.cells.kept hG (fun g hg e=>by have:=(h.cells.lt g hg).1;injection e with e;omega),h.cls.grown hG (fun g hg e=>by have:=(h.cls.lt g hg).1;injection e with e;omega),h.of.set c q,h.map.kept hG (by simp),h.rf.grown hG (fun b e=>by injection e with e;omega),Nat.le_trans h.sz hG.size⟩
theorem MgW.up (h:MgW w wr tb T vn va p9 c9 p10 c10 M) {kb:Nat} (hk:wr.heap.size=kb) (hb:Below kb wr w'):MgW w w' tb T vn va p9 c9 p10 c10 M:=h.under (hk▸hb)
theorem MgW.alloc (h:MgW w wr tb T vn va p9 c9 p10 c10 M) (o:Obj):MgW w (wr.alloc o) tb T vn va p9 c9 p10 c10 M:=h.under ((Below.refl _ _).alloc (Nat.le_refl _) _)
end
theorem ownK_elem {α:Type} {K:Nat} {enc:α→List OC} {w:World} {base:Nat} {e:TypeId} {p:Option Addr} {c:Nat} {l:List α} (hk:∀x,(enc x).length=K) (h:OwnK K enc w base e (.slice p l.length c) l) (i:Nat) (hi:i<l.length):∃g,p=some ⟨g,0,none⟩∧g<w.heap.size∧At oV w g (i * K) (enc l[i]):=by
 rcases h.2 with ⟨_,h0⟩ | ⟨g,cap,cur,he,hb,hg,hn,hm,hs,ht⟩
 ·omega
 ·injection he with he1 he2 he3
  subst he1
  refine ⟨g,rfl,(Array.getElem?_eq_some_iff.1 hg).1,fun j hj=> ?_⟩
  have h1:((l.flatMap enc).map oV)[i * K+j]?=(enc l[i])[j]?.map oV:=by
   rw [List.getElem?_map,flat_get enc l (fun x _=>hk x) i hi j hj]
  have hlt:i * K+j<l.length * K:=by
   have:(i+1) * K≤l.length * K:=Nat.mul_le_mul_right K hi
   rw [hk] at hj
   rw [Nat.succ_mul] at this
   omega
  rw [← ht,List.getElem?_take_of_lt hlt] at h1
  unfold World.cell?
  rw [hg]
  show cur[i * K+j]?=_
  rw [List.getElem?_eq_getElem hj] at h1 ⊢
  rw [← Array.getElem?_toList,h1]
theorem valD {P:Program} {ops:Array Oper} {o:Oper} {a:Act} {w w':World} {K:Act→World→Prop} {Q:Exit→Act→World→Prop} {X:Prop} {v:Value} {d:Nat} (hd:o.dst=some d) (hw:Region.wanted o (yielded ops a.tmps)=true)
  (he:(execOp a.eval o).run P w= .ok (.value v) w')
  (h:K {a with tmps:=a.tmps.setIfInBounds d v} w'):if Region.wanted o (yielded ops a.tmps)=true then Oper.wp P o a w K Q else X:=by
 rw [if_pos hw]
 unfold Oper.wp
 rw [he]
 show K (a.put o.dst _) _
 rw [hd]
 exact h
set_option maxHeartbeats 16000000 in
theorem tMerge (w:World) (C:Array Value) (T:TB) (hC:TbAt w C T) (hT:T.Ok) (vb vr:Value) (block reps:List Nat) (l:List Nat) (hb:Rd nV w vb block) (hr:Rd nV w vr reps) (hL:LOk T.nx.length l) (hB:BOk T.nx.length l (block,reps)):
  Calls Tryz.prog 229 #[.agg C,vb,vr] w fun e w'=>∃p1 c1 p2 c2,e= .returned (.tuple #[.slice p1 (T.merge (block,reps)).cells.length c1, .slice p2 (T.merge (block,reps)).cls.length c2])∧Mem.Own nV w' w.heap.size 3 (.slice p1 (T.merge (block,reps)).cells.length c1) (T.merge (block,reps)).cells∧OwnK 4 clL w' w.heap.size 65 (.slice p2 (T.merge (block,reps)).cls.length c2) (T.merge (block,reps)).cls∧Below w.heap.size w w':=by
 obtain ⟨⟨vn,hvn⟩,⟨va,hva⟩,hCe,h1,h2,h3⟩:=hC
 obtain ⟨pn,kn,rfl⟩:=h1.slice
 obtain ⟨pb,kb,rfl⟩:=hb.slice
 obtain ⟨pr,kr,rfl⟩:=hr.slice
 have HN:=Lib.hid h1
 have HBR:=Lib.hid hb
 have HRR:=Lib.hid hr
 have HT:=Lib.hid hT
 have HBO:=Lib.hid hB
 obtain ⟨n,Hn⟩:∃n,Hid (T.nx.length=n):=⟨_,Lib.hid rfl⟩
 have g1:1≤n:=by rw [← Hn.out];exact hT.n1
 have g2:n≤65535:=by rw [← Hn.out];exact hT.nn
 have hbl:block.length=n:=by rw [← Hn.out];exact hB.bl
 have hln:=hL.len
 have hrl:=hB.rl
 rw [Hn.out] at HN hCe hln
 obtain ⟨R,HRL⟩:∃n,Hid (reps.length=n):=⟨_,Lib.hid rfl⟩
 have hRn:R≤65535:=by rw [← HRL.out];have h:=hB.rl;simp only at h;omega
 have HBL:=Lib.hid hbl
 rw [hbl] at HBR ⊢
 rw [HRL.out] at HRR ⊢
 have hcc:T.cells≤256:=hT.c256
 obtain ⟨cn,Hcn⟩:∃n,Hid (T.cells=n):=⟨_,Lib.hid rfl⟩
 rw [Hcn.out] at hcc
 have HLT:Hid (∀x∈l,x<n):=Lib.hid (by rw [← Hn.out];exact hL.lt)
 clear h1 h2 hb hr hT hB hL hbl hln hrl
 have hR0:RefW w (w.alloc (.cells C 166)) w.heap.size T ⟨.slice pn n kn,hvn⟩ ⟨va,hva⟩:=⟨⟨Row.new _ _ (by rw [hCe]),h3⟩,(Below.refl _ _).alloc (Nat.le_refl _) _,by simp⟩
 have hS0:(w.alloc (.cells C 166)).heap.size=w.heap.size+1:=World.size_alloc _ _
 clear hCe
 go_enter Tryz.func229,Tryz.ntmps229
 have hmm:= @run_makeMap Tryz.prog
 go_upto_region 1 with (fail)
 obtain ⟨tb,Htb⟩:∃tb,Hid (w.heap.size=tb):=⟨_,Lib.hid rfl⟩
 generalize (w.alloc (.cells C 166))=W at hR0 hS0 ⊢
 rw [Htb.out] at hR0 hS0 ⊢
 have hmp:MapI okN encN Tryz.prog 9 3 (W.alloc (.map #[] 0)) W.heap.size []:=MapI.made W
 have hR1:=hR0.alloc (.map #[] 0)
 have hS1:(W.alloc (.map #[] 0)).heap.size=tb+2:=by rw [World.size_alloc,hS0]
 rw [hS0] at hmp
 go_upto_region 4 with (fail)
 generalize (W.alloc (.map #[] 0))=W1 at hmp hR1 hS1 ⊢
 clear hR0 hS0
 clear W
 have c256:=hR1.tab.cells
 rw [Hcn.out] at c256
 obtain ⟨MB,hMB⟩:∃C,Hid (C=((List.replicate cn 0).map nV).toArray):=⟨_,Lib.hid rfl⟩
 have hmk:∀w:World,(Instr.makeSlice 92 (.int .i64 (cn:Int)) (.int .i64 (cn:Int))).run Tryz.prog w= .ok (.slice (some ⟨w.heap.size,0,none⟩) cn cn) (w.alloc (.cells MB 3)):=fun w=>by rw [hMB.out];exact mkIntN w cn (by omega)
 have hOf:Row zV (W1.alloc (.cells MB 3)) W1.heap.size 3 (List.replicate cn 0):=by
  rw [hMB.out]
  refine Row.new _ _ ?_
  simp [nV,zV]
 have hR2:=hR1.alloc (.cells MB 3)
 have hmp2:=hmp.alloc (.cells MB 3)
 have hS2:(W1.alloc (.cells MB 3)).heap.size=tb+3:=by rw [World.size_alloc,hS1]
 rw [hS1] at hOf
 go_upto_region 5 with (fail)
 generalize (W1.alloc (.cells MB 3))=W2 at hOf hR2 hmp2 hS2 ⊢
 clear hmp hR1 hS1 c256 hmk hMB
 clear W1 MB
 go_wp2_with fail
 go_loopw [27] (fun s27 wr=>∃k:Nat,k≤cn∧s27= .int .i64 k∧Row zV wr (tb+2) 3 (List.replicate k (-1)++List.replicate (cn - k) 0)∧MapI okN encN Tryz.prog 9 3 wr (tb+1) []∧RefW w wr tb T ⟨.slice pn n kn,hvn⟩ ⟨va,hva⟩∧tb+3≤wr.heap.size) (fun s27 _=>cn - (intOf s27).toNat)
 case atStart=>exact ⟨0,by omega,rfl,by simpa using hOf,hmp2,hR2,by omega⟩
 case round=>
  clear hOf hmp2 hR2 hS2
  obtain ⟨k,hk,rfl,hOf,hMp,hRw,hS⟩:=hrel
  by_cases hlt:k<cn
  ·have hq:(k:Int)<(cn:Int):=by omega
   have hlen:(List.replicate k (-1:Int)++List.replicate (cn - k) 0).length=cn:=by simp;omega
   have co:=rowI_at hOf k (by rw [hlen];exact hlt)
   have fo:=hOf.frozen k
   have hOf':=hOf.set k (-1)
   have hset:(List.replicate k (-1:Int)++List.replicate (cn - k) 0).set k (-1)=List.replicate (k+1) (-1)++List.replicate (cn - (k+1)) 0:=by
    rw [show cn - k=(cn - (k+1))+1 by omega,List.replicate_succ (n:=cn - (k+1)),List.set_append_right _ _ (by simp),List.length_replicate,Nat.sub_self,List.set_cons_zero,List.replicate_succ' (n:=k),List.append_assoc];rfl
   rw [hset] at hOf'
   have hG:=grown_cell wr (tb+2) k (zV (-1))
   have hMp':=hMp.kept hG (by simp)
   have hRw':=hRw.grown hG (fun b e=>by injection e with e;omega)
   have hS':=Nat.le_trans hS hG.size
   clear hOf hMp hRw hS hG hset hlen
   go_wp2_with fail
   go_roundw
   case rel=>exact ⟨k+1,by omega,by go_num,hOf',hMp',hRw',hS'⟩
   case measure=>simp [intOf];omega
  ·obtain rfl:k=cn:=by omega
   rw [Nat.sub_self,List.replicate_zero,List.append_nil] at hOf
   have hMg:MgW w wr tb T ⟨.slice pn n kn,hvn⟩ ⟨va,hva⟩ none 0 none 0 (mergeK T block reps 0):=⟨Own.nil _ _ _,OwnK.nil _ _ _,by rw [show (mergeK T block reps 0).of=List.replicate T.cells (-1) from rfl,Hcn.out];exact hOf,hMp,hRw,hS⟩
   clear hOf hMp hRw hS
   go_wp2_with fail
   go_loopw [9,10,34] (fun s9 s10 s34 wr=>∃(b:Nat) (M:MS) (p9:Option Addr) (c9:Nat) (p10:Option Addr) (c10:Nat),b≤256∧s34= .int .i64 b∧Hid (mergeK T block reps b=M)∧s9= .slice p9 M.cells.length c9∧s10= .slice p10 M.cls.length c10∧MgW w wr tb T ⟨.slice pn n kn,hvn⟩ ⟨va,hva⟩ p9 c9 p10 c10 M) (fun _ _ s34 _=>256 - (intOf s34).toNat)
   case atStart=>exact ⟨0,_,none,0,none,0,by omega,rfl,Lib.hid rfl,rfl,rfl,hMg⟩
   case round=>
    clear hMg hk hlt
    obtain ⟨b,M,p9,c9,p10,c10,hb,rfl,HM,rfl,rfl,hMg⟩:=hrel
    have hok:=mergeK_ok HT.out block reps b (by omega)
    rw [HM.out,Hcn.out] at hok
    have HOK:=Lib.hid hok
    clear hok
    by_cases hlt:b<256
    ·have hq:(b:Int)<256:=by omega
     have cc:=hMg.rf.tab.c b hlt
     have hck:T.cell.getD b 0<k:=by rw [← Hcn.out];exact cell_lt HT.out b hlt
     have HM1:Hid (mergeK T block reps (b+1)=mjoin (mfind T.nx block reps M (T.cell.getD b 0)) (T.cell.getD b 0) b):=Lib.hid (by rw [mergeK,HM.out])
     generalize T.cell.getD b 0=c at *
     have hco:c<M.of.length:=by rw [HOK.out.ol];exact hck
     have co:=rowI_at hMg.of c hco
     have hci:(c:Int)<(k:Int):=by omega
     have HMO:=mfind_ok HOK.out T.nx block reps hck
     have HMO:=Lib.hid HMO
     obtain ⟨oc,Hoc⟩:∃oc,Hid (M.of.getD c 0=oc):=⟨_,Lib.hid rfl⟩
     rw [Hoc.out] at co
     obtain ⟨MF,HMF⟩:∃MF,Hid (mfind T.nx block reps M c=MF):=⟨_,Lib.hid rfl⟩
     rw [HMF.out] at HMO HM1
     go_upto_if 45 with (fail)
     go_cut [9,10] (fun s9 s10 wx=>∃(p9:Option Addr) (c9:Nat) (p10:Option Addr) (c10:Nat),s9= .slice p9 MF.cells.length c9∧s10= .slice p10 MF.cls.length c10∧MgW w wx tb T ⟨.slice pn n kn,hvn⟩ ⟨va,hva⟩ p9 c9 p10 c10 MF)
     ·by_cases hneg:oc<0
      ·have hmf:=HMF.out
       rw [mfind,Hoc.out,if_pos hneg] at hmf
       have HMF2:=Lib.hid hmf
       clear hmf
       obtain ⟨KB,hKB⟩:∃C,Hid (C=((List.replicate (2 * R) (0:UInt8)).map u8V).toArray):=⟨_,Lib.hid rfl⟩
       have hmk:∀w:World,(Instr.makeSlice 22 (.int .i64 0) (.int .i64 (2 * (R:Int)))).run Tryz.prog w= .ok (.slice (some ⟨w.heap.size,0,none⟩) 0 (2 * R)) (w.alloc (.cells KB 5)):=fun w=>by
        have h:=mkKey w (2 * R) (by omega)
        rw [hKB.out,← h]
        congr 2
       have hOK0:Mem.Own u8V (wr.alloc (.cells KB 5)) wr.heap.size 5 (.slice (some ⟨wr.heap.size,0,none⟩) 0 (2 * R)) []:=by rw [hKB.out];exact own_mkKey wr (2 * R) (by omega)
       have hB4:Below wr.heap.size wr (wr.alloc (.cells KB 5)):=(Below.refl _ _).alloc (Nat.le_refl _) _
       have hKs:=hMg.sz
       go_upto_region 16 with (fail)
       obtain ⟨kb,Hkb⟩:∃kb,Hid (wr.heap.size=kb):=⟨_,Lib.hid rfl⟩
       rw [Hkb.out] at hOK0 hB4 hKs ⊢
       generalize (wr.alloc (.cells KB 5))=W4 at hOK0 hB4 ⊢
       have HMg:=Lib.hid hMg
       clear hmk co cc hMg
       generalize wr=w1 at HMg Hkb hB4 ⊢
       generalize Value.bool (decide (oc<0))=ob
       go_wp2_with fail
       go_loopw [15,52] (fun s15 s52 wq=>∃(i:Nat) (pk:Option Addr) (ck:Nat),i≤R∧s52= .int .i64 i∧s15= .slice pk (2 * i) ck∧Mem.Own u8V wq kb 5 (.slice pk (2 * i) ck) (enc2 ((reps.take i).map fun s=>toOf T.nx block s c))∧Below kb w1 wq) (fun _ s52 _=>R - (intOf s52).toNat)
       case atStart=>exact ⟨0,_,_,by omega,rfl,rfl,hOK0,hB4⟩
       case round=>
        clear hOK0 hB4
        obtain ⟨i,pk,ck,hi,rfl,rfl,hOK,hbK⟩:=hrel
        by_cases hil:i<R
        ·have hq2:(i:Int)<(R:Int):=by omega
         obtain ⟨rb,ro,rfl,hcs⟩:=rdN_at HRR.out i hil
         have hMq:=HMg.out.up Hkb.out hbK
         have cs:=hcs wr (by rw [Htb.out];exact hMq.rf.bel)
         have hirl:i<reps.length:=by rw [HRL.out];exact hil
         have hs:reps.getD i 0<n:=HLT.out _ (HBO.out.rm _ (getD_mem _ _ _ hirl))
         have HTK:Hid ((reps.take (i+1)).map (fun s=>toOf T.nx block s c)=(reps.take i).map (fun s=>toOf T.nx block s c)++[toOf T.nx block (reps.getD i 0) c]):=Lib.hid (by
          have e:reps.getD i 0=reps[i]:=by rw [List.getD_eq_getElem?_getD,List.getElem?_eq_getElem hirl];rfl
          rw [List.take_succ_eq_append_getElem hirl,List.map_append,e];rfl)
         generalize reps.getD i 0=s at *
         have hsi:(s:Int)<(n:Int):=by omega
         have hW1:Below w.heap.size w wr:=by rw [Htb.out];exact hMq.rf.bel
         obtain ⟨nb,no,rq,rd,rfl,hnn,hnb,hcr,hrow⟩:=rows_at HN.out s (by rw [Hn.out];exact hs)
         have cr:wr.cell? ⟨nb,no+s,none⟩=some (.slice rq (T.nx.getD s []).length rd):=(hW1.cell (p:=⟨nb,no+s,none⟩) hnb).trans hcr
         have hrl:(T.nx.getD s []).length=k:=by rw [HT.out.rw _ (getD_mem _ _ _ (by rw [Hn.out];exact hs)),Hcn.out]
         have HRT:Hid (∀t∈T.nx.getD s [],t<n):=Lib.hid (row_lt (by rw [← Hn.out];exact HT.out.rb) _)
         have c258:=hMq.rf.tab.nx
         have HTO:Hid (toOf T.nx block s c=block.getD ((T.nx.getD s []).getD c 0) 0):=Lib.hid rfl
         obtain ⟨row,Hrow⟩:∃r,Hid (T.nx.getD s []=r):=⟨_,Lib.hid rfl⟩
         rw [Hrow.out] at hrow HRT hrl cr HTO
         have Hrl:=Lib.hid hrl
         rw [hrl] at hrow cr
         clear hrl
         obtain ⟨tb2,to2,rfl,hct⟩:=rdN_at hrow c hck
         have ct:=hct wr hW1
         have ht:row.getD c 0<n:=HRT.out _ (getD_mem _ _ _ (by rw [Hrl.out];exact hck))
         generalize row.getD c 0=t at *
         have hti:(t:Int)<(n:Int):=by omega
         obtain ⟨bb,bo,rfl,hcb⟩:=rdN_at HBR.out t ht
         have cb:=hcb wr hW1
         have hb1:block.getD t 0<65536:=by
          have:=HBO.out.bb _ (getD_mem block t 0 (by rw [HBL.out];exact ht))
          have h2:=HRL.out
          simp only at this
          omega
         rw [HTO.out] at HTK
         generalize block.getD t 0=b1 at *
         obtain ⟨kk,HKK⟩:∃kk,Hid ((reps.take i).map (fun s=>toOf T.nx block s c)=kk):=⟨_,Lib.hid rfl⟩
         have HK2:Hid (enc2 ((reps.take (i+1)).map fun s=>toOf T.nx block s c)=enc2 kk++[UInt8.ofNat b1,UInt8.ofNat (b1 / 256)]):=Lib.hid (by
          rw [HTK.out,← HKK.out,enc2_append];rfl)
         rw [HKK.out] at hOK
         have HKL:Hid ((enc2 kk).length=2 * i):=Lib.hid (by
          rw [enc2_length,← HKK.out,List.length_map,List.length_take,HRL.out];omega)
         have hBk2:kb≤wr.heap.size:=by rw [← Hkb.out];exact hbK.size
         have HU1:Hid (Value.int .u8 ((b1:Int) % 256)=u8V (UInt8.ofNat b1)):=Lib.hid (by unfold u8V;rw [UInt8.toNat_ofNat'];congr 1)
         have HU2:Hid (Value.int .u8 ((b1:Int) / 256)=u8V (UInt8.ofNat (b1 / 256))):=Lib.hid (by unfold u8V;rw [UInt8.toNat_ofNat'];congr 1;omega)
         have hl1:((enc2 kk).length+2) * 1≤140737488355328:=by rw [HKL.out];omega
         have hl2:(enc2 kk).length+2≤140737488355328:=by rw [HKL.out];omega
         have hl1:=Lib.hid hl1
         have hl2:=Lib.hid hl2
         obtain ⟨rr,Hrr⟩:∃rr,Hid (enc2 kk++[UInt8.ofNat b1,UInt8.ofNat (b1 / 256)]=rr):=⟨_,Lib.hid rfl⟩
         clear hcs hct hcb hnn hcr hrow hMq hW1
         go_upto_region 21 with (at_builtin;go_loud (with_reducible refine append_pair elt8 (.tmp 67) (.tmp 73) ?_ ?_ u8V_one ?_ hOK (UInt8.ofNat b1) (UInt8.ofNat (b1 / 256)) (.int .u8 ((b1:Int) % 256)) (.int .u8 ((b1:Int) / 256)) HU1.out HU2.out 5 ?_ hl1.out hl2.out hBk2 rr Hrr.out ?_);rfl;rfl;rfl;rfl;(intro p3 c3 w3 hO3 hB3 hG3))
         have hb3:=hbK.trans hB3
         have hl3:rr.length=2 * (i+1):=by rw [← Hrr.out,List.length_append,HKL.out];simp;omega
         rw [hl3] at hO3
         rw [← Hrr.out,← HK2.out] at hO3
         rw [hl3]
         clear hl3 hl1 hl2 hOK hbK hG3 hB3 c258 ct cb cr cs
         go_wp2_with fail
         go_roundw
         case rel=>exact ⟨i+1,p3,c3,by omega,by go_num,rfl,hO3,hb3⟩
         case measure=>simp [intOf];omega
        ·obtain rfl:i=R:=by omega
         have hki:(reps.take i).map (fun s=>toOf T.nx block s c)=colKey T.nx block reps c:=by
          rw [List.take_of_length_le (by rw [HRL.out];exact Nat.le_refl _)];rfl
         rw [hki] at hOK
         have HON:Hid (okN (colKey T.nx block reps c)):=Lib.hid (by
          intro x hx
          obtain ⟨s,hs,rfl⟩:=List.mem_map.1 hx
          by_cases h:(T.nx.getD s []).getD c 0<block.length
          ·have:=HBO.out.bb _ (getD_mem block _ 0 h)
           have h2:=HRL.out
           simp only at this
           show block.getD _ 0<_
           omega
          ·show block.getD _ 0<_
           rw [List.getD_eq_getElem?_getD,List.getElem?_eq_none (by omega)]
           show 0<65536
           omega)
         have HKLEN:Hid ((enc2 (colKey T.nx block reps c)).length≤200000):=Lib.hid (by rw [enc2_length,colKey,List.length_map,HRL.out];omega)
         have hMq:=HMg.out.up Hkb.out hbK
         have hcv:=run_convert_rd (P:=Tryz.prog) Tryz.underlying22 Tryz.underlying5 Tryz.underlying9 hOK.rd
         have HOKr:=Lib.hid hOK.rd
         obtain ⟨ky,Hky⟩:∃ky,Hid (colKey T.nx block reps c=ky):=⟨_,Lib.hid rfl⟩
         rw [Hky.out] at hcv HON HKLEN HMF2 HOKr
         have HKey:Hid (Go.keyOf Tryz.prog 9 (.string ⟨(enc2 ky).toArray⟩)=some (encN ky)):=Lib.hid (WideMaps.keyOf_string_mk Tryz.underlying9 (by have:=HKLEN.out;unfold maxLen ByteArray.size;simp;omega))
         have hz:∀w:World,(zeroValue 3).run Tryz.prog w= .ok (.int .i64 0) w:=fun w=>by kernel_rfl
         clear HMg Hkb hbK hOK hki
         by_cases hm:ky∈M.ks
         ·have hmf:=HMF2.out
          rw [if_pos hm] at hmf
          obtain ⟨q,Hq⟩:∃q,Hid (@List.idxOf _ instBEqOfDecidableEq ky M.ks=q):=⟨_,Lib.hid rfl⟩
          rw [← idxOf_inst,Hq.out] at hmf
          have HMF3:=Lib.hid hmf
          have HM2:=Lib.hid hm
          clear hm HMF2 hmf
          have hmp:=hMq.map
          go_upto_region 28 with (at_lookup;(with_reducible refine map_look_yes hmp ?_ (.tmp 77) (.tmp 79) ?_ (Maps.string_keyed Tryz.underlying9) Tryz.underlying249 Tryz.underlying3 (hz _) ?_ ky HON.out HM2.out q Hq.out _ ?_ HKey.out ?_);rfl;rfl;rfl;rfl)
          have c3:=rowI_at hMq.of c hco
          have f3:=hMq.of.frozen c
          have hM5:=hMq.setOf c (q:Int)
          have hM6:Hid (MgW w (wr.setCell ⟨tb+2,c,none⟩ (.int .i64 (q:Int))) tb T ⟨.slice pn n kn,hvn⟩ ⟨va,hva⟩ p9 c9 p10 c10 {M with of:=M.of.set c (q:Int)}):=Lib.hid hM5
          clear hMq hcv hmp hM5
          go_wp2_with fail
          go_meet
          exact ⟨p9,c9,p10,c10,by rw [← HMF3.out],by rw [← HMF3.out],by rw [← HMF3.out];exact hM6.out⟩
         ·have hmf:=HMF2.out
          rw [if_neg hm] at hmf
          have HMF3:=Lib.hid hmf
          have HM2:=Lib.hid hm
          clear hm HMF2 hmf
          have hmp:=hMq.map
          go_upto_region 24 with (at_lookup;(with_reducible refine map_look_no hmp ?_ (.tmp 77) (.tmp 79) ?_ (Maps.string_keyed Tryz.underlying9) Tryz.underlying249 Tryz.underlying3 (hz _) ?_ ky HON.out HM2.out _ ?_ HKey.out ?_);rfl;rfl;rfl;rfl)
          clear hcv
          go_upto_region 25 with (fail)
          have hcv:=run_convert_rd (P:=Tryz.prog) Tryz.underlying22 Tryz.underlying5 Tryz.underlying9 HOKr.out
          have HLEN:=Lib.hid HOK.out.cl
          have HLEC:=Lib.hid HOK.out.cc
          have hle:=HOK.out.le
          have hkl:M.ks.length<1000000000:=by omega
          go_upto_region 26 with (at_mapUpdate;(with_reducible refine map_put hmp ?_ (.tmp 87) (.tmp 89) (.tmp 90) ?_ (Maps.string_keyed Tryz.underlying9) Tryz.underlying249 Tryz.underlying3 encN_inj encN_key ?_ ky HON.out HM2.out hkl _ ?_ HKey.out ?_ ?_);rfl;rfl;rfl;rfl;(exact congrArg (fun n:Nat=>Value.int .i64 (n:Int)) HLEN.out);(intro W7 hMp7 hG7))
          have hO7:=hMq.cells.kept hG7 (fun g hg e=>by have:=(hMq.cells.lt g hg).1;injection e with e;omega)
          have hK7:=hMq.cls.grown hG7 (fun g hg e=>by have:=(hMq.cls.lt g hg).1;injection e with e;omega)
          have hF7:=hMq.of.grown hG7 (by simp)
          have hRw7:=hMq.rf.grown hG7 (fun b e=>by injection e with e;omega)
          have hS7:=Nat.le_trans hMq.sz hG7.size
          have hn7:M.cells.length≤256:=by rw [HLEN.out];omega
          have hc7:M.cls.length≤256:=by rw [HLEC.out];omega
          clear hMq hmp hG7 hcv
          go_upto_region 27 with (at_builtin;(with_reducible refine append_one eltNI (.tmp 91) (.tmp 93) ?_ ?_ nV_one ?_ hO7 c _ ?_ _ ?_ ?_ ?_ ?_ (M.cells++[c]) ?_ ?_);rfl;rfl;rfl;rfl;rfl;(omega);(omega);(exact hS7);rfl;(intro p8 c8 W8 hO8 hB8 hG8))
          have hne:∀b,b<tb+3→some b≠(Value.slice p9 M.cells.length c9).ownBlock:=fun b hb e=>by have:=(hO7.lt b e.symm).1;omega
          have hF8:=(hF7.alloc (.cells #[.int .i64 (c:Int)] 3)).grown hG8 (hne _ (by omega))
          have hMp8:=(hMp7.alloc (.cells #[.int .i64 (c:Int)] 3)).kept hG8 (hne _ (by omega))
          have hRw8:=(hRw7.alloc (.cells #[.int .i64 (c:Int)] 3)).grown hG8 (fun b e=>by have:=(hO7.lt b e).1;omega)
          have hK8:=(hK7.grown (World.grownBy_alloc W7 (.cells #[.int .i64 (c:Int)] 3) none) (fun _ _=>by simp)).grown hG8 (hK7.type hO7 (by decide))
          have hS8:=Nat.le_trans hS7 hB8.size
          clear hne hO7 hF7 hMp7 hRw7 hK7 hS7 hG8 hB8
          go_upto_region 28 with (at_builtin;(with_reducible refine append_k eltKC (by decide) clL_len4 (.tmp 95) (.tmp 97) ?_ ?_ ?_ hK8 zeroC _ ?_ _ ?_ ?_ ?_ ?_ (M.cls++[zeroC]) rfl ?_);rfl;rfl;rfl;rfl;rfl;(omega);(omega);(exact hS8);(intro p11 c11 W9 hK9 hB9 hG9))
          have hne9:=fun g hg e=>(hK8.type hO8 (by decide)) g e (Eq.symm hg)
          have hne:∀b,b<tb+3→some b≠(Value.slice p10 M.cls.length c10).ownBlock:=fun b hb e=>by have:=(hK8.lt b e.symm).1;omega
          have hO9:=(hO8.alloc _).kept hG9 hne9
          have hF9:=(hF8.alloc _).grown hG9 (hne _ (by omega))
          have hMp9:=(hMp8.alloc _).kept hG9 (hne _ (by omega))
          have hRw9:=(hRw8.alloc _).grown hG9 (fun b e=>by have:=(hK8.lt b e).1;omega)
          have hS9:=Nat.le_trans hS8 hB9.size
          have hM9:MgW w W9 tb T ⟨.slice pn n kn,hvn⟩ ⟨va,hva⟩ p8 c8 p11 c11 ⟨M.ks++[ky],M.cells++[c],M.cls++[zeroC],M.of⟩:=⟨hO9,hK9,hF9,hMp9,hRw9,hS9⟩
          clear hne9 hne hO8 hF8 hMp8 hRw8 hK8 hS8 hG9 hB9 hO9 hF9 hMp9 hRw9 hS9 hK9
          have c3:=rowI_at hM9.of c hco
          have f3:=hM9.of.frozen c
          have hM6:Hid (MgW w (W9.setCell ⟨tb+2,c,none⟩ (.int .i64 (M.cells.length:Int))) tb T ⟨.slice pn n kn,hvn⟩ ⟨va,hva⟩ p8 c8 p11 c11 MF):=Lib.hid (by rw [← HMF3.out,HLEN.out];exact hM9.setOf c _)
          clear hM9
          go_wp2_with fail
          go_meet
          exact ⟨p8,c8,p11,c11,by rw [← HMF3.out];simp,by rw [← HMF3.out];simp,hM6.out⟩
      ·have hmf:M=MF:=by rw [← HMF.out,mfind,Hoc.out,if_neg hneg]
       subst hmf
       go_wp2_with fail
       go_meet
       exact ⟨p9,c9,p10,c10,rfl,rfl,hMg⟩
     ·obtain ⟨q9,d9,q10,d10,rfl,rfl,hMg⟩:=hcut
      have hmo:=HMO.out.1
      obtain ⟨q,Hq⟩:∃q:Nat,Hid (MF.of.getD c 0=(q:Int)):=⟨_,Lib.hid (Int.toNat_of_nonneg HMO.out.2).symm⟩
      have hcm:c<MF.of.length:=by rw [hmo.ol];exact hck
      have hqk:q<MF.cls.length:=by
       have h:=hmo.ob _ (getD_mem _ _ 0 hcm)
       rw [Hq.out] at h
       rw [hmo.cc];omega
      have hqi:(q:Int)<(MF.cls.length:Int):=by omega
      have hq256:MF.cls.length≤256:=by rw [hmo.cc];have:=hmo.le;omega
      obtain ⟨g,rfl,hgl,hat⟩:=ownK_elem clL_len4 hMg.cls q hqk
      have co2:=rowI_at hMg.of c hcm
      rw [Hq.out] at co2
      have hof:=hMg.of.lt
      have hoc:∀X,Below wc.heap.size wc X→X.cell? ⟨tb+2,c,none⟩=some (.int .i64 (q:Int)):=fun X hX=>(hX.cell (p:=⟨tb+2,c,none⟩) hof).trans co2
      have HM2:Hid (mergeK T block reps (b+1)={MF with cls:=MF.cls.set q (MF.cls[q].union (zeroC.add b))}):=Lib.hid (by
       rw [HM1.out,mjoin,Hq.out,Int.toNat_natCast,List.getD_eq_getElem?_getD,List.getElem?_eq_getElem hqk];rfl)
      have HLK:Hid (MF.cls.length=MF.ks.length):=Lib.hid hmo.cc
      generalize MF.cls[q]=x at hat HM2
      clear hmo co2
      go_upto_region 29 with (fail)
      go_wp2_with fail
      refine region_headsT (S:=fun X=>Below wc.heap.size wc X) 17 rfl (by kernel_rfl) (Below.refl _ _).drew fun hS=> ?_
      refine tk 0 103 (.slice (some ⟨g,0,none⟩) MF.cls.length d10) hS ?_
      refine tk 1 104 (.slice (some ⟨tb+2,0,none⟩) k k) hS ?_
      refine tk 2 105 (.int .i64 c) hS ?_
      refine tk 3 106 (.pointer (some ⟨tb+2,c,none⟩)) hS ?_ rfl yg
      refine tk 4 107 (.int .i64 q) hS ?_ rfl (qi fun W' h=>by have q0:=hoc W' h;go_simp)
      refine tk 5 108 (.slice (some ⟨g,0,none⟩) MF.cls.length d10) hS ?_
      refine tk 6 109 (.slice (some ⟨tb+2,0,none⟩) k k) hS ?_
      refine tk 7 110 (.int .i64 c) hS ?_
      refine tk 8 111 (.pointer (some ⟨tb+2,c,none⟩)) hS ?_ rfl yg
      refine tk 9 112 (.int .i64 q) hS ?_ rfl (qi fun W' h=>by have q0:=hoc W' h;go_simp)
      refine tk 10 113 (.pointer (some ⟨g,q * 4,none⟩)) hS ?_ rfl yg
      refine tk 11 114 (.agg (clA x)) hS ?_ rfl (yieldsIf_load (f:=oV) (l:=clL x) aggCl (.tmp 113) rfl g (q * 4) rfl (fun W' h=>hat.below h hgl) rfl rfl)
      refine tk 12 115 (.int .i64 b) hS ?_
      refine tk 13 116 (.int .u8 (b:Int)) hS ?_ rfl (yo fun w=>by go_simp;rw [IntKind.wrap_u8];omega)
      refine rdT 14 (fun K' hK=> ?_)
      refine valD (d:=117) (v:= .slice (some ⟨wc.drew.heap.size,0,none⟩) 1 1) (w':=wc.drew.alloc (.cells #[.int .u8 (b:Int)] 5)) rfl rfl (by go_simp) ?_
      have hRb:Row u8V (wc.drew.alloc (.cells #[.int .u8 (b:Int)] 5)) wc.drew.heap.size 5 [UInt8.ofNat b]:=Row.new _ _ (by
       have e:u8V (UInt8.ofNat b)= .int .u8 (b:Int):=by unfold u8V;rw [UInt8.toNat_ofNat'];congr 1;omega
       rw [← e];rfl)
      have hR1:=(own_of_row hRb (Nat.le_refl _) (by unfold maxLen;simp)).rd
      have hS2:Below wc.heap.size wc (wc.drew.alloc (.cells #[.int .u8 (b:Int)] 5)):=hS.alloc hS.size _
      refine hK.out _ _ hS2 fun _=> ?_
      clear hK hRb hS
      simp only [sA,sB,sC]
      generalize wc.drew.alloc (.cells #[.int .u8 (b:Int)] 5)=Wa at hR1 hS2 ⊢
      refine rdT 15 (fun K' hK=> ?_)
      refine cD 118 193 #[.slice (some ⟨wc.drew.heap.size,0,none⟩) 1 1] ?_
      refine (clOf Wa _ [UInt8.ofNat b] hR1 (by simp)).mono ?_
      rintro e Wb ⟨rfl,hBb⟩
      have hS3:=hS2.trans (hBb.mono hS2.size)
      refine ⟨_,rfl,hK.out _ _ hS3 fun _=> ?_⟩
      clear hK hBb hS2 hR1
      have ha:addAll [UInt8.ofNat b]=zeroC.add b:=by
       show zeroC.add (UInt8.ofNat b).toNat=_
       rw [UInt8.toNat_ofNat',Nat.mod_eq_of_lt (by omega)]
      rw [ha]
      clear ha
      generalize zeroC.add b=y at *
      simp only [sA,sB,sC]
      refine rdT 16 (fun K' hK=> ?_)
      refine cD 119 57 #[.agg (clA x), .agg (clA y)] ?_
      refine (clUnion Wb x y).mono ?_
      rintro e Wc ⟨rfl,hBc⟩
      have hS4:=hS3.trans (hBc.mono hS3.size)
      refine ⟨_,rfl,hK.out _ _ hS4 fun _=> ?_⟩
      clear hK hBc hS3
      simp only [sA,sB,sC]
      refine headsT_tail (by kernel_rfl) ?_
      simp only [List.drop]
      have hM4:=hMg.under hS4
      clear hoc hat hMg hS4
      generalize x.union y=z at *
      have hKw:=hM4.cls
      go_step
      go_step
      go_step
      refine store_elem (C:=clA z) (enc:=clL) aggCl clL_len4 (.tmp 120) (.tmp 119) rfl rfl g MF.cls.length d10 q (q * 4) rfl rfl z rfl rfl hKw hqk ?_
      intro W5 hK5 hG5
      have hgo:(Value.slice (some ⟨g,0,none⟩) MF.cls.length d10).ownBlock=some g:=rfl
      have hgb:=(hKw.lt g hgo).1
      have hM5:Hid (MgW w W5 tb T ⟨.slice pn n kn,hvn⟩ ⟨va,hva⟩ q9 d9 (some ⟨g,0,none⟩) d10 {MF with cls:=MF.cls.set q z}):=Lib.hid ⟨hM4.cells.kept hG5 (fun k hk e=>hKw.type hM4.cells (by decide) g hgo (e.trans hk.symm)),by show OwnK 4 clL W5 _ _ (.slice _ (MF.cls.set q z).length _) _;rw [List.length_set];exact hK5,hM4.of.grown hG5 (by simp;omega),hM4.map.kept hG5 (by simp;omega),hM4.rf.grown hG5 (fun b e=>by injection e with e;omega),Nat.le_trans hM4.sz hG5.size⟩
      clear hK5 hG5 hM4 hKw
      go_wp2_with fail
      go_roundw
      case rel=>exact ⟨b+1,_,q9,d9,some ⟨g,0,none⟩,d10,by omega,by go_num,HM2,rfl,by rw [List.length_set],hM5.out⟩
      case measure=>simp [intOf];omega
    ·obtain rfl:b=256:=by omega
     have HE:Hid (T.merge (block,reps)=M):=HM
     have HO:=Lib.hid (hMg.cells.mono (by omega:tb≤tb+3))
     have HK:=Lib.hid (hMg.cls.mono (by omega:tb≤tb+3))
     have HB:=Lib.hid hMg.rf.bel
     clear hMg
     go_wp2_with fail
     go_ret2
     refine ⟨p9,c9,p10,c10,?_,?_,?_,by rw [Htb.out];exact HB.out⟩
     ·rw [HE.out];rfl
     ·rw [HE.out,Htb.out];exact HO.out
     ·rw [HE.out,Htb.out];exact HK.out
end Go.Proofs.YtncnfncglacheaaGreatDoor
