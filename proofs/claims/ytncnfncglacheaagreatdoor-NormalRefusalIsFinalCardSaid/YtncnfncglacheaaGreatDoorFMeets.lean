/- Part of a proof. -/
import Derived.Test.YtncnfncglacheaaGreatDoorFEvAll
set_option linter.all false
set_option maxRecDepth 100000
set_option maxHeartbeats 64000000
namespace Go.Proofs.YtncnfncglacheaaGreatDoor
section
open Go Go.RowKit Go.Shelf Mem
attribute [local go_sem] XO
def NZ.kept (N:NZ) (x:Sc.Wd):Bool:=N.acc x && (x==N.Ak x)
end
section
open Go.RowKit Mem
theorem kz:bU Tryz.prog 37 3:=⟨fun _=>by kernel_rfl,fun _=>by kernel_rfl⟩
theorem nu.row {α:Type} {K:Nat} {enc:α→List OC} {w:World} {b:Nat} {t:TypeId} {l:List α} {cs:List OC} (h:Row oV w b t cs) (hc:l.flatMap enc=cs) (hk:∀x∈l,(enc x).length=K):nu K enc w (.slice (some ⟨b,0,none⟩) l.length l.length) l:=by
 refine .inr ⟨b,0,l.length,rfl,ah _,fun i hi=> ?_,h.lt⟩;subst hc;intro j hj;rw [h.cell?];congr 1
 have:∀(l:List α) (hk:∀x∈l,(enc x).length=K) (i:Nat) (hi:i<l.length) (j:Nat),j<(enc l[i]).length→(l.flatMap enc)[i * K+j]?=(enc l[i])[j]?:=by
  intro l
  induction l with
  | nil=>intro _ i hi;simp at hi
  | cons a l ih=>
   intro hk i hi j hj;rw [Md];cases i with
   | zero=>
    simp only [Ty,nR,List.getElem_cons_zero] at hj ⊢;rw [Ig hj]
   | succ i=>
    simp only [List.getElem_cons_succ] at hj ⊢;have ha:(enc a).length=K:=hk a (Bq ..);rw [Kk (by rw [ha,PU];omega),ha];rw [show (i+1) * K+j - K=i * K+j by rw [PU];omega];exact ih (fun x hx=>hk x (Ic _ hx)) i (by simpa using hi) j hj
 rw [nR];exact this l hk i hi j hj
end
section
open Go Go.RowKit Mem
theorem GN {P:Program} {ops:Array Oper} {rest:List Oper} {o:Oper} {a:Act} {Q:Exit→Act→World→Prop} {w:World} {ty t:TypeId} {l':List OC} (T:bU P ty l'.length) (x y:Operand) (hgd:o.guard=none) (ho:o.op= .store ty x y) (b:Nat) (hx:a.eval x= .pointer (some ⟨b,0,none⟩))
  {C:Array Value} (hC:C=(l'.map oV).toArray) (hy:a.eval y= .agg C) (cur:Array Value) (h:w.heap[b]?=some (.cells cur t (0,0))) (hl:l'.length≤cur.size)
  (hk:∀w',w'.heap[b]?=some (.cells (l'.map oV++cur.toList.drop l'.length).toArray t (0,0))→w.grownBy w' (some b)→wpList P ops Q rest (a.put o.dst undef) w'):wpList P ops Q (o::rest) a w:=by
 subst hC;have hs:=run_storeCells_at P b 0 t (l'.map oV) 0 cur w h (by simpa using hl) (fun v hv=>by obtain ⟨y,_,rfl⟩:=wS.1 hv;exact y.2);simp only [x8,List.take_zero,J4,nR,fD] at hs
 have hr:(storeVar ty ⟨b,0,none⟩ (.agg (l'.map oV).toArray)).run P w= .ok () (w.setRow b (l'.map oV++cur.toList.drop l'.length).toArray):=by
  simp [storeVar,Value.cells,dR,T.size];exact hs
 refine RQ hgd fun K hK=> ?_;unfold Oper.wp execOp;simp only [ho,hx,hy,Instr.storeAt,Instr.sureAddr,dR,iB,fT,hr];exact hK _ _ (hk _ (setRow_heap w b _ _ t (0,0) h) (o6 w b _))
def ou (n:Int):OC:=⟨.int .u8 n,rfl⟩
theorem aa4 (w:World) (k n:Nat) (hk:k<256) (hn:1≤n∧n≤4):Calls Tryz.prog 41 #[.int .i64 k, .int .i64 n] w fun e w'=>e= .returned (.agg (DT (jH k n)))∧Below w.heap.size w w':=by
 have d1:(k:Int).tdiv 8=((k / 8:Nat):Int):=by rw [Yx (by omega)];omega
 have d1':(k:Int) / 8=((k / 8:Nat):Int):=by omega
 have d2:((k / 8:Nat):Int).tmod (n:Int)=((k / 8 % n:Nat):Int):=by rw [LG (by omega)];omega
 have d2':((k / 8:Nat):Int) % (n:Int)=((k / 8 % n:Nat):Int):=by omega
 have hn0:¬(n:Int)=0:=by omega
 have hn1:(n:Int)≠0:=hn0;obtain ⟨r,hr8,hr⟩:∃r,r<8∧k % 8=r:=⟨k % 8,U9 _ (by omega),rfl⟩
 have hmk:Hid (jH k n=⟨((k / 8 % n:Nat):Int),JY r,mkB r⟩):=af (by unfold jH;rw [hr]);have d3:(k:Int).tmod 8=(r:Int):=by rw [LG (by omega)];omega
 have d4:(k:Int) % 8=(r:Int):=by omega
 generalize hq1:k / 8=q1 at *;generalize hq2:q1 % n=q2 at *;clear hr hq1 hq2;go_enter Tryz.func41,Tryz.ntmps41;go_upto_region 1 with (fail)
 obtain ⟨W,hW,hB,hs,r0⟩:∃W,(w.alloc (.cells #[.int .i64 0, .int .i64 0, .int .u8 0] 61))=W∧Below w.heap.size w W∧w.heap.size+1≤W.heap.size∧Row oV W w.heap.size 61 [oi 0,oi 0,ou 0]:=
  ⟨_,rfl,ai (au _ _) (ah _) _,by simp,Row.new _ _ rfl⟩
 rw [hW];clear hW;have hz:Row oV (W.alloc (.cells #[.int .i64 0, .int .i64 0, .int .u8 0] 61)) W.heap.size 61 [oi 0,oi 0,ou 0]:=Row.new _ _ rfl;go_upto_region 2 with (((with_reducible refine zS (l':=[oi q2,oi 0,ou 0]) hz eT ?_);(intro W1 hs1 hG1 hz1)));have hb1:=j6 (au W.heap.size W) hG1;replace r0:=r0.below hb1 r0.lt;replace hB:=hB.trans (hb1.mono hB.size);generalize hcb:W.heap.size=cb at *;have afN:w.heap.size+1≤cb:=hs;clear hs hz hG1 hz1 hb1 hcb W d1 d1' d2 d2' hn0 hn1;have f1:=hs1.frozen 1;have f2:=hs1.frozen 2;have hl:=hs1.lt;have hc1:W1.cell? ⟨cb,1,none⟩=some (.int .i64 0):=by rw [hs1.cell?];rfl
 have hc2:W1.cell? ⟨cb,2,none⟩=some (.int .u8 0):=by rw [hs1.cell?];rfl
 rcases (by omega:r=0∨r=1∨r=2∨r=3∨r=4∨r=5∨r=6∨r=7) with rfl | rfl | rfl | rfl | rfl | rfl | rfl | rfl
 ·have hrow:Row oV W1 cb 61 [oi q2,oi 0,ou 0]:=hs1;have hr0:Row oV W1 w.heap.size 61 [oi 0,oi 0,ou 0]:=r0;have hbl:Below w.heap.size w W1:=hB
  go_wp2_with (first
   | ((with_reducible refine zL hrow.at eT rfl (C:=#[.int .i64 q2, .int .i64 0, .int .u8 0]) ?_))
   | ((with_reducible refine zS (l':=[oi q2,oi 0,ou 0]) hr0 eT ?_);(intro W6 hs6 dw gP)))
  refine fJ (aR (f:=oV) (l:=[oi q2,oi 0,ou 0]) rfl _ eT w.heap.size 0 rfl hs6.at) rfl ?_;exact ⟨by rw [hmk.out];rfl,hbl.grown dw hbl.size (fun j e=>by cases e;omega)⟩
 ·have hrow:Row oV W1 cb 61 [oi q2,oi 0,ou 0]:=hs1;have hr0:Row oV W1 w.heap.size 61 [oi 0,oi 0,ou 0]:=r0;have hbl:Below w.heap.size w W1:=hB
  go_wp2_with (first
   | ((with_reducible refine zL hrow.at eT rfl (C:=#[.int .i64 q2, .int .i64 0, .int .u8 0]) ?_))
   | ((with_reducible refine zS (l':=[oi q2,oi 0,ou 0]) hr0 eT ?_);(intro W6 hs6 dw gP)))
  refine fJ (aR (f:=oV) (l:=[oi q2,oi 0,ou 0]) rfl _ eT w.heap.size 0 rfl hs6.at) rfl ?_;exact ⟨by rw [hmk.out];rfl,hbl.grown dw hbl.size (fun j e=>by cases e;omega)⟩
 ·have hrow:Row oV W1 cb 61 [oi q2,oi 0,ou 0]:=hs1;have hr0:Row oV W1 w.heap.size 61 [oi 0,oi 0,ou 0]:=r0;have hbl:Below w.heap.size w W1:=hB
  go_wp2_with (first
   | ((with_reducible refine zL hrow.at eT rfl (C:=#[.int .i64 q2, .int .i64 0, .int .u8 0]) ?_))
   | ((with_reducible refine zS (l':=[oi q2,oi 0,ou 0]) hr0 eT ?_);(intro W6 hs6 dw gP)))
  refine fJ (aR (f:=oV) (l:=[oi q2,oi 0,ou 0]) rfl _ eT w.heap.size 0 rfl hs6.at) rfl ?_;exact ⟨by rw [hmk.out];rfl,hbl.grown dw hbl.size (fun j e=>by cases e;omega)⟩
 ·have hrow:Row oV (W1.setCell ⟨cb,1,none⟩ (.int .i64 1)) cb 61 [oi q2,oi 1,ou 0]:=(hs1.set 1 (oi 1))
  have hr0:Row oV (W1.setCell ⟨cb,1,none⟩ (.int .i64 1)) w.heap.size 61 [oi 0,oi 0,ou 0]:=(r0.aj (b':=cb) (by omega) 1 (.int .i64 1))
  have hbl:Below w.heap.size w (W1.setCell ⟨cb,1,none⟩ (.int .i64 1)):=(aQ hB (b:=cb) 1 (by omega) (.int .i64 1))
  go_wp2_with (first
   | ((with_reducible refine zL hrow.at eT rfl (C:=#[.int .i64 q2, .int .i64 1, .int .u8 0]) ?_))
   | ((with_reducible refine zS (l':=[oi q2,oi 1,ou 0]) hr0 eT ?_);(intro W6 hs6 dw gP)))
  refine fJ (aR (f:=oV) (l:=[oi q2,oi 1,ou 0]) rfl _ eT w.heap.size 0 rfl hs6.at) rfl ?_;exact ⟨by rw [hmk.out];rfl,hbl.grown dw hbl.size (fun j e=>by cases e;omega)⟩
 ·have hrow:Row oV ((W1.setCell ⟨cb,1,none⟩ (.int .i64 2)).setCell ⟨cb,2,none⟩ (.int .u8 97)) cb 61 [oi q2,oi 2,ou 97]:=((hs1.set 1 (oi 2)).set 2 (ou 97))
  have hr0:Row oV ((W1.setCell ⟨cb,1,none⟩ (.int .i64 2)).setCell ⟨cb,2,none⟩ (.int .u8 97)) w.heap.size 61 [oi 0,oi 0,ou 0]:=((r0.aj (b':=cb) (by omega) 1 (.int .i64 2)).aj (b':=cb) (by omega) 2 (.int .u8 97))
  have hbl:Below w.heap.size w ((W1.setCell ⟨cb,1,none⟩ (.int .i64 2)).setCell ⟨cb,2,none⟩ (.int .u8 97)):=(aQ (aQ hB (b:=cb) 1 (by omega) (.int .i64 2)) (b:=cb) 2 (by omega) (.int .u8 97))
  go_wp2_with (first
   | ((with_reducible refine zL hrow.at eT rfl (C:=#[.int .i64 q2, .int .i64 2, .int .u8 97]) ?_))
   | ((with_reducible refine zS (l':=[oi q2,oi 2,ou 97]) hr0 eT ?_);(intro W6 hs6 dw gP)))
  refine fJ (aR (f:=oV) (l:=[oi q2,oi 2,ou 97]) rfl _ eT w.heap.size 0 rfl hs6.at) rfl ?_;exact ⟨by rw [hmk.out];rfl,hbl.grown dw hbl.size (fun j e=>by cases e;omega)⟩
 ·have hrow:Row oV ((W1.setCell ⟨cb,1,none⟩ (.int .i64 2)).setCell ⟨cb,2,none⟩ (.int .u8 98)) cb 61 [oi q2,oi 2,ou 98]:=((hs1.set 1 (oi 2)).set 2 (ou 98))
  have hr0:Row oV ((W1.setCell ⟨cb,1,none⟩ (.int .i64 2)).setCell ⟨cb,2,none⟩ (.int .u8 98)) w.heap.size 61 [oi 0,oi 0,ou 0]:=((r0.aj (b':=cb) (by omega) 1 (.int .i64 2)).aj (b':=cb) (by omega) 2 (.int .u8 98))
  have hbl:Below w.heap.size w ((W1.setCell ⟨cb,1,none⟩ (.int .i64 2)).setCell ⟨cb,2,none⟩ (.int .u8 98)):=(aQ (aQ hB (b:=cb) 1 (by omega) (.int .i64 2)) (b:=cb) 2 (by omega) (.int .u8 98))
  go_wp2_with (first
   | ((with_reducible refine zL hrow.at eT rfl (C:=#[.int .i64 q2, .int .i64 2, .int .u8 98]) ?_))
   | ((with_reducible refine zS (l':=[oi q2,oi 2,ou 98]) hr0 eT ?_);(intro W6 hs6 dw gP)))
  refine fJ (aR (f:=oV) (l:=[oi q2,oi 2,ou 98]) rfl _ eT w.heap.size 0 rfl hs6.at) rfl ?_;exact ⟨by rw [hmk.out];rfl,hbl.grown dw hbl.size (fun j e=>by cases e;omega)⟩
 ·have hrow:Row oV (W1.setCell ⟨cb,1,none⟩ (.int .i64 3)) cb 61 [oi q2,oi 3,ou 0]:=(hs1.set 1 (oi 3))
  have hr0:Row oV (W1.setCell ⟨cb,1,none⟩ (.int .i64 3)) w.heap.size 61 [oi 0,oi 0,ou 0]:=(r0.aj (b':=cb) (by omega) 1 (.int .i64 3))
  have hbl:Below w.heap.size w (W1.setCell ⟨cb,1,none⟩ (.int .i64 3)):=(aQ hB (b:=cb) 1 (by omega) (.int .i64 3))
  go_wp2_with (first
   | ((with_reducible refine zL hrow.at eT rfl (C:=#[.int .i64 q2, .int .i64 3, .int .u8 0]) ?_))
   | ((with_reducible refine zS (l':=[oi q2,oi 3,ou 0]) hr0 eT ?_);(intro W6 hs6 dw gP)))
  refine fJ (aR (f:=oV) (l:=[oi q2,oi 3,ou 0]) rfl _ eT w.heap.size 0 rfl hs6.at) rfl ?_;exact ⟨by rw [hmk.out];rfl,hbl.grown dw hbl.size (fun j e=>by cases e;omega)⟩
 ·have hrow:Row oV (W1.setCell ⟨cb,1,none⟩ (.int .i64 3)) cb 61 [oi q2,oi 3,ou 0]:=(hs1.set 1 (oi 3))
  have hr0:Row oV (W1.setCell ⟨cb,1,none⟩ (.int .i64 3)) w.heap.size 61 [oi 0,oi 0,ou 0]:=(r0.aj (b':=cb) (by omega) 1 (.int .i64 3))
  have hbl:Below w.heap.size w (W1.setCell ⟨cb,1,none⟩ (.int .i64 3)):=(aQ hB (b:=cb) 1 (by omega) (.int .i64 3))
  go_wp2_with (first
   | ((with_reducible refine zL hrow.at eT rfl (C:=#[.int .i64 q2, .int .i64 3, .int .u8 0]) ?_))
   | ((with_reducible refine zS (l':=[oi q2,oi 3,ou 0]) hr0 eT ?_);(intro W6 hs6 dw gP)))
  refine fJ (aR (f:=oV) (l:=[oi q2,oi 3,ou 0]) rfl _ eT w.heap.size 0 rfl hs6.at) rfl ?_;exact ⟨by rw [hmk.out];rfl,hbl.grown dw hbl.size (fun j e=>by cases e;omega)⟩
theorem aT.cur {α:Type} {K:Nat} {enc:α→List OC} {w:World} {base g c:Nat} {e:TypeId} {x:α} (hk:∀x,(enc x).length=K) (h:aT K enc w base e (.slice (some ⟨g,0,none⟩) 1 c) [x]):
  base≤g∧∃cur,w.heap[g]?=some (.cells cur e (0,0))∧K≤cur.size∧∀w' y,w'.heap[g]?=some (.cells ((enc y).map oV++cur.toList.drop (enc y).length).toArray e (0,0))→aT K enc w' base e (.slice (some ⟨g,0,none⟩) 1 c) [y]:=by
 rcases h.2 with ⟨h0,_⟩ | ⟨g2,cap,cur,he,hbg,hc,hn,hm,hs,ht⟩
 ·cases h0
 ·cases he;have hn':1≤c:=hn;have hK:K≤cur.size:=by rw [hs];exact Nat.le_mul_of_pos_left K hn'
  refine ⟨hbg,cur,hc,hK,fun w' y hw=>⟨by simp [hk], .inr ⟨g,c,_,rfl,hbg,hw,hn,hm,?_,?_⟩⟩⟩
  ·simp [hk];omega
  ·simp [hk]
theorem aT.head {α:Type} {K:Nat} {enc:α→List OC} {w:World} {base g c:Nat} {e:TypeId} {x:α} (hk:∀x,(enc x).length=K) (h:aT K enc w base e (.slice (some ⟨g,0,none⟩) 1 c) [x]):At oV w g 0 (enc x):=by
 obtain ⟨b,o,he,hat,_⟩:=(h.rd hk).elem 0 (by simp);cases he;simpa using hat
theorem aT.ptr {α:Type} {K:Nat} {enc:α→List OC} {w:World} {base n c:Nat} {p:Option Addr} {e:TypeId} {l:List α} (h:aT K enc w base e (.slice p n c) l) (hl:l≠[]):∃g,p=some ⟨g,0,none⟩:=by
 rcases h.2 with ⟨_,h0⟩ | ⟨g,cap,cur,he,_⟩
 ·exact absurd (vR.1 h0) hl
 ·injection he with he;exact ⟨g,he⟩
theorem aaU {α:Type} {f:α→Value} {w:World} {base n c:Nat} {p:Option Addr} {e:TypeId} {l:List α} (h:Mem.Own f w base e (.slice p n c) l) (hl:l≠[]):∃g,p=some ⟨g,0,none⟩:=by
 rcases h.2 with ⟨_,h0⟩ | ⟨g,cap,cur,he,_⟩
 ·exact absurd (vR.1 h0) hl
 ·injection he with he;exact ⟨g,he⟩
theorem ab6 (w:World) (a b:Value):Calls Tryz.prog 92 #[.slice none 0 0,a,b] w fun e w'=>e= .returned (.bool true)∧w'=w:=by
 go_enter Tryz.func92,Tryz.ntmps92;go_wp2_with fail;refine uT 1 ?_;refine ak (n:=0) ?_;go_wp2;go_ret;exact ⟨rfl,rfl⟩
theorem afe:yM Tryz.prog 33 65 4 32:=yM.mk' (z:= .agg #[.int .u64 0, .int .u64 0, .int .u64 0, .int .u64 0]) Tryz.underlying33 (by kernel_rfl) rfl
theorem sG (c:Cl):(aJ c).length=4:=rfl
theorem Sy (w:World):Calls Tryz.prog 52 #[.slice none 0 0] w fun e w'=>∃g c,e= .returned (.slice (some ⟨g,0,none⟩) 1 c)∧aT 4 aJ w' w.heap.size 65 (.slice (some ⟨g,0,none⟩) 1 c) [Fp]∧Below w.heap.size w w':=by
 go_enter Tryz.func52,Tryz.ntmps52;go_upto_region 4 with (fail)
 obtain ⟨W,hW,hB,hs,o0,o1⟩:∃W,((w.alloc (.cells #[] 65)).alloc (.cells #[] 5))=W∧Below w.heap.size w W∧w.heap.size+2≤W.heap.size∧aT 4 aJ W w.heap.size 65 (.slice (some ⟨w.heap.size,0,none⟩) 0 0) ([]:List Cl)∧Mem.Own aV W w.heap.size 5 (.slice (some ⟨w.heap.size+1,0,none⟩) 0 0) ([]:List UInt8):=by
  refine ⟨_,rfl,ai (ai (au _ _) (ah _) _) (ah _) _,by simp,(aT.ad1 w w.heap.size 65 (ah _)).below' (ai (au _ _) (ah _) _),?_⟩;have h:=Own.new (f:=aV) (l:=[]) (w.alloc (.cells #[] 65)) (.cells #[] 5) (base:=w.heap.size) (e:=5) (by simp) rfl (by simp);simpa using h
 rw [hW];clear hW;obtain ⟨p,HP⟩:∃p:Nat→Bool,Hid (p=fun _=>true):=⟨_,af rfl⟩
 have HF:Hid (di p 256=Fp):=af (by rw [HP.out];decide+kernel)
 go_loopw [3,4,5,6] (fun s3 s4 s5 s6 wr=>∃(k:Nat),k≤256∧s5= .int .i64 k∧((k=0∧s3= .slice (some ⟨w.heap.size,0,none⟩) 0 0∧s4= .slice (some ⟨w.heap.size+1,0,none⟩) 0 0∧wr=W)∨
   (1≤k∧∃g c h d,s3= .slice (some ⟨g,0,none⟩) 1 c∧s4= .slice (some ⟨h,0,none⟩) 1 d∧aT 4 aJ wr w.heap.size 65 (.slice (some ⟨g,0,none⟩) 1 c) [di p k]∧Mem.Own aV wr w.heap.size 5 (.slice (some ⟨h,0,none⟩) 1 d) [0]∧Below w.heap.size w wr))) (fun _ _ i _ _=>256 - (intOf i).toNat)
 case atStart=>exact ⟨0,by omega,rfl, .inl ⟨rfl,rfl,rfl,rfl⟩⟩
 case round=>
  obtain ⟨k,hk,rfl,⟨rfl,rfl,rfl,rfl⟩ | ⟨h1,g,c,h,d,rfl,rfl,hO,hL,hb⟩⟩:=hrel
  ·rw [show ((0:Nat):Int)=0 from rfl];have hbk:(UInt8.ofNat 0).toNat=0:=by simp
   have hFk:Hid (bS.add 0=di p (0+1)):=af (by rw [qc,aC (by rw [HP.out])];rfl);have hFk:Hid (Cl.add bS 0=di p (0+1)):=hFk;go_wp2_with fail;refine uT 1 ?_;refine ak (n:=0) ?_;go_wp2_with (at_builtin;(with_reducible refine oF afe (by decide) sG (.tmp 34) (.tmp 36) ?_ ?_ ?_ o0 bS #[.int .u64 0, .int .u64 0, .int .u64 0, .int .u64 0] ?_ 65 ?_ ?_ ?_ ?_ [bS] ?_ ?_);rfl;rfl;rfl;rfl;rfl;(simp);(simp);(omega);rfl;(intro p3 c wA hO hBA hGA);(refine bN.back ?_));obtain ⟨g,rfl⟩:=hO.ptr (by simp);have hL:=(o1.alloc (.cells #[.int .u64 0, .int .u64 0, .int .u64 0, .int .u64 0] 65)).dK hGA (fun j hj e=>by cases hj;injection e with e;simp at e);have hb:=hB.trans hBA;clear o0 o1 hGA hBA hB;refine bN.out ?_;go_wp2_with (at_builtin;(with_reducible refine eG xV (.tmp 38) (.tmp 41) ?_ ?_ j4 ?_ hL 0 _ ?_ _ ?_ ?_ ?_ ?_ [0] ?_ ?_);rfl;rfl;rfl;rfl;rfl;(simp);(simp);(exact hb.size);rfl;(intro p4 d wB hL2 Tv hGB);(refine bN.back ?_));obtain ⟨h,rfl⟩:=aaU hL2 (by simp);replace hO:=(hO.below' (ai (au _ _) (ah _) (.cells #[.int .u8 0] 5))).grown hGB (fun j hj=>(hO.type hL (by decide)) j hj);replace hL:=hL2;replace hb:=hb.trans Tv;clear hL2 hGB Tv;refine bN.out ?_;have hat:=hO.head sG;go_wp2_with ((with_reducible refine zL hat ay rfl (C:=ax bS) ?_));have hc:=Fe wB bS (UInt8.ofNat 0);rw [hbk] at hc;refine hc.mono ?_;clear hc hat;rintro e w5 ⟨rfl,hb5⟩;replace hO:=hO.below' hb5;replace hL:=hL.below' hb5;replace hb:=hb.trans (hb5.mono hb.size);clear hb5;obtain ⟨hbg,cur,za,hKc,hset⟩:=hO.cur sG;replace hset:=af hset;rw [hFk.out];go_wp2_with (((with_reducible refine GN (l':=aJ (di p (0+1))) (t:=65) (C:=ax (di p (0+1))) ay (.tmp 52) (.tmp 51) ?_ ?_ g ?_ ?_ ?_ cur za ?_ ?_);rfl;rfl;rfl;rfl;rfl;(exact hKc);(intro w6 hs6 dw)))
   go_roundw
   case rel=>exact ⟨0+1,by omega,by go_num, .inr ⟨by omega,g,c,h,d,rfl,rfl,hset.out _ _ hs6,hL.dK dw (fun j hj=>by have:=hO.type hL (by decide) g rfl;rw [hj] at this;intro e;exact this e.symm),hb.grown dw hb.size (fun j e=>by cases e;exact hbg)⟩⟩
   case measure=>simp [intOf]<;>omega
  ·by_cases hlt:k<256
   ·have hq:(k:Int)<256:=by omega
    have hbk:(UInt8.ofNat k).toNat=k:=by simp;omega
    have hw8:IntKind.u8.wrap (k:Int)=(k:Int):=by rw [G6];omega
    have hFk:Hid ((di p k).add k=di p (k+1)):=af (by rw [qc,aC (by rw [HP.out])]);have agm:wr.cell? ⟨h,0,none⟩=some (.int .u8 0):=(hL.at h rfl) 0 (by simp);go_wp2_with fail;refine uT 1 ?_;refine ak (n:=0) ?_;go_wp2_with fail;refine (ab6 _ _ _).mono ?_;rintro e w4 ⟨rfl,rfl⟩;clear agm;have hat:=hO.head sG;go_wp2_with ((with_reducible refine zL hat ay rfl (C:=ax (di p k)) ?_));have hc:=Fe w4 (di p k) (UInt8.ofNat k);rw [hbk] at hc;refine hc.mono ?_;clear hc hat;rintro e w5 ⟨rfl,hb5⟩;replace hO:=hO.below' hb5;replace hL:=hL.below' hb5;replace hb:=hb.trans (hb5.mono hb.size);clear hb5;obtain ⟨hbg,cur,za,hKc,hset⟩:=hO.cur sG;replace hset:=af hset;rw [hFk.out];go_wp2_with (((with_reducible refine GN (l':=aJ (di p (k+1))) (t:=65) (C:=ax (di p (k+1))) ay (.tmp 52) (.tmp 51) ?_ ?_ g ?_ ?_ ?_ cur za ?_ ?_);rfl;rfl;rfl;rfl;rfl;(exact hKc);(intro w6 hs6 dw)))
    go_roundw
    case rel=>exact ⟨k+1,by omega,by go_num, .inr ⟨by omega,g,c,h,d,rfl,rfl,hset.out _ _ hs6,hL.dK dw (fun j hj=>by have:=hO.type hL (by decide) g rfl;rw [hj] at this;intro e;exact this e.symm),hb.grown dw hb.size (fun j e=>by cases e;exact hbg)⟩⟩
    case measure=>simp [intOf]<;>omega
   ·obtain rfl:k=256:=by omega
    rw [HF.out] at hO;go_wp2;go_ret;exact ⟨g,c,rfl,hO,hb⟩
theorem nu.grown {α:Type} {K:Nat} {enc:α→List OC} {w w':World} {g o n c:Nat} {l:List α} (h:nu K enc w (.slice (some ⟨g,o,none⟩) n c) l) {row:Option Nat} (hg:w.grownBy w' row) (hne:some g≠row):nu K enc w' (.slice (some ⟨g,o,none⟩) n c) l:=by
 rcases h with hn | ⟨b,o2,cap,he,hc,ha,hlt⟩
 ·exact .inl hn
 ·injection he with e1 e2 e3
  injection e1 with e1
  injection e1 with e1 e4
  subst e1;subst e2;subst e3;subst e4;exact .inr ⟨_,_,_,rfl,hc,fun i hi=>(ha i hi).grown hg hlt hne,bO hlt hg.size⟩
theorem X9 (w:World):Calls Tryz.prog 17 #[] w fun e w'=>∃pc pr pe kc,e= .returned (.agg #[.slice pc fO.cls.length kc, .slice pr fO.rows.length 1, .slice pe fO.ends.length 1])∧nJ w' (.agg #[.slice pc fO.cls.length kc, .slice pr fO.rows.length 1, .slice pe fO.ends.length 1]) fO∧Below w.heap.size w w':=by
 go_enter Tryz.func17,Tryz.ntmps17;go_upto_region 1 with (fail)
 obtain ⟨W,hW,hB,hs,r0⟩:∃W,(w.alloc (.cells #[.slice none 0 0, .slice none 0 0, .slice none 0 0] 37))=W∧Below w.heap.size w W∧w.heap.size+1≤W.heap.size∧Row oV W w.heap.size 37 [on,on,on]:=
  ⟨_,rfl,ai (au _ _) (ah _) _,by simp,Row.new _ _ rfl⟩
 rw [hW];clear hW;go_wp2_with fail;refine (Sy W).mono ?_;rintro e W1 ⟨g,c,rfl,hO,hb⟩;replace r0:=r0.below hb r0.lt;replace hB:=hB.trans (hb.mono hB.size);have hR:=hO.rd sG;have hgb:=(hO.lt g rfl).1;have hl:=hb.size;clear hO hb
 obtain ⟨W2,hW,hB2,hl2,r1,q1,q2,q3⟩:∃X,(((W1.alloc (.cells #[.int .i64 0, .int .i64 0, .int .u8 0] 61)).alloc (.cells #[.slice (some ⟨W1.heap.size,0,none⟩) 1 1] 62)).alloc (.cells #[.bool true] 4))=X∧Below W1.heap.size W1 X∧W1.heap.size+3≤X.heap.size∧Row oV X w.heap.size 37 [on,on,on]∧Row oV X W1.heap.size 61 [oi 0,oi 0,ou 0]∧Row oV X (W1.heap.size+1) 62 [qz W1.heap.size 1 1]∧Row Value.bool X (W1.heap.size+1+1) 4 [true]:=by
  have hbb:Below W1.heap.size W1 (((W1.alloc (.cells #[.int .i64 0, .int .i64 0, .int .u8 0] 61)).alloc (.cells #[.slice (some ⟨W1.heap.size,0,none⟩) 1 1] 62)).alloc (.cells #[.bool true] 4)):=ai (ai (ai (au _ _) (ah _) _) (ah _) _) (ah _) _;refine ⟨_,rfl,hbb,by simp,r0.below hbb r0.lt,?_,?_,?_⟩
  all_goals repeat (first | (refine dH _ _ _ ?_;(simp;done)) | (refine (pM _ _ _ ?_).trans ?_;·(simp<;>omega)))
 replace hR:=hR.below hB2;replace hB:=hB.trans (hB2.mono hB.size);have hlb:w.heap.size<W1.heap.size:=by omega
 clear hB2 r0;generalize hn1:W1.heap.size=n1 at *;go_wp2_with (((with_reducible refine zS (l':=[qz g 1 c,qz (n1+1) 1 1,qz (n1+1+1) 1 1]) r1 kz ?_);(intro Y EP qp XR)));refine fJ (v:= .agg #[.slice (some ⟨g,0,none⟩) 1 c, .slice (some ⟨n1+1,0,none⟩) 1 1, .slice (some ⟨n1+1+1,0,none⟩) 1 1]) (aR (f:=oV) (l:=[qz g 1 c,qz (n1+1) 1 1,qz (n1+1+1) 1 1]) rfl _ kz w.heap.size 0 rfl EP.at) rfl ?_;have hne:∀b,w.heap.size<b→some b≠some w.heap.size:=fun b hb e=>by injection e with e;omega
 have y1:=q1.grown qp (hne _ (by omega));have y2:=q2.grown qp (hne _ (by omega));have y3:=q3.grown qp (hne _ (by omega));have hR2:=hR.grown qp (hne _ (by omega));refine ⟨some ⟨g,0,none⟩,some ⟨n1+1,0,none⟩,some ⟨n1+1+1,0,none⟩,c,rfl,⟨_,_,_,rfl,hR2,?_,?_⟩,?_⟩
 ·refine .inr ⟨n1+1,0,1,rfl,ah _,fun i hi=> ?_,y2.lt⟩;obtain rfl:i=0:=by have:i<1:=hi;omega
  exact ⟨.slice (some ⟨n1,0,none⟩) 1 1,by rw [y2.cell?];rfl,nu.row (l:=([⟨0,0,0⟩]:List Ce)) y1 rfl (fun x _=>rfl)⟩
 ·exact .inr ⟨n1+1+1,0,1,rfl,ah _,y3.at,y3.lt⟩
 ·exact hB.grown qp hB.size (fun k e=>by cases e;exact ah _)
theorem Vb (w:World):Calls Tryz.prog 16 #[] w fun e w'=>∃pc pr pe kc,e= .returned (.agg #[.slice pc fZ.cls.length kc, .slice pr fZ.rows.length 1, .slice pe fZ.ends.length 1])∧nJ w' (.agg #[.slice pc fZ.cls.length kc, .slice pr fZ.rows.length 1, .slice pe fZ.ends.length 1]) fZ∧Below w.heap.size w w':=by
 go_enter Tryz.func16,Tryz.ntmps16;go_upto_region 1 with (fail)
 obtain ⟨W,hW,hB,hs,r0⟩:∃W,(w.alloc (.cells #[.slice none 0 0, .slice none 0 0, .slice none 0 0] 37))=W∧Below w.heap.size w W∧w.heap.size+1≤W.heap.size∧Row oV W w.heap.size 37 [on,on,on]:=
  ⟨_,rfl,ai (au _ _) (ah _) _,by simp,Row.new _ _ rfl⟩
 rw [hW];clear hW;go_wp2_with fail;refine (Sy W).mono ?_;rintro e W1 ⟨g,c,rfl,hO,hb⟩;replace r0:=r0.below hb r0.lt;replace hB:=hB.trans (hb.mono hB.size);have hR:=hO.rd sG;have hgb:=(hO.lt g rfl).1;have hl:=hb.size;clear hO hb
 obtain ⟨W2,hW,hB2,hl2,r1,q1,q2,q3⟩:∃X,(((W1.alloc (.cells #[.int .i64 0, .int .i64 3, .int .u8 0] 61)).alloc (.cells #[.slice (some ⟨W1.heap.size,0,none⟩) 1 1] 62)).alloc (.cells #[.bool false] 4))=X∧Below W1.heap.size W1 X∧W1.heap.size+3≤X.heap.size∧Row oV X w.heap.size 37 [on,on,on]∧Row oV X W1.heap.size 61 [oi 0,oi 3,ou 0]∧Row oV X (W1.heap.size+1) 62 [qz W1.heap.size 1 1]∧Row Value.bool X (W1.heap.size+1+1) 4 [false]:=by
  have hbb:Below W1.heap.size W1 (((W1.alloc (.cells #[.int .i64 0, .int .i64 3, .int .u8 0] 61)).alloc (.cells #[.slice (some ⟨W1.heap.size,0,none⟩) 1 1] 62)).alloc (.cells #[.bool false] 4)):=ai (ai (ai (au _ _) (ah _) _) (ah _) _) (ah _) _;refine ⟨_,rfl,hbb,by simp,r0.below hbb r0.lt,?_,?_,?_⟩
  all_goals repeat (first | (refine dH _ _ _ ?_;(simp;done)) | (refine (pM _ _ _ ?_).trans ?_;·(simp<;>omega)))
 replace hR:=hR.below hB2;replace hB:=hB.trans (hB2.mono hB.size);have hlb:w.heap.size<W1.heap.size:=by omega
 clear hB2 r0;generalize hn1:W1.heap.size=n1 at *;go_wp2_with (((with_reducible refine zS (l':=[qz g 1 c,qz (n1+1) 1 1,qz (n1+1+1) 1 1]) r1 kz ?_);(intro Y EP qp XR)));refine fJ (v:= .agg #[.slice (some ⟨g,0,none⟩) 1 c, .slice (some ⟨n1+1,0,none⟩) 1 1, .slice (some ⟨n1+1+1,0,none⟩) 1 1]) (aR (f:=oV) (l:=[qz g 1 c,qz (n1+1) 1 1,qz (n1+1+1) 1 1]) rfl _ kz w.heap.size 0 rfl EP.at) rfl ?_;have hne:∀b,w.heap.size<b→some b≠some w.heap.size:=fun b hb e=>by injection e with e;omega
 have y1:=q1.grown qp (hne _ (by omega));have y2:=q2.grown qp (hne _ (by omega));have y3:=q3.grown qp (hne _ (by omega));have hR2:=hR.grown qp (hne _ (by omega));refine ⟨some ⟨g,0,none⟩,some ⟨n1+1,0,none⟩,some ⟨n1+1+1,0,none⟩,c,rfl,⟨_,_,_,rfl,hR2,?_,?_⟩,?_⟩
 ·refine .inr ⟨n1+1,0,1,rfl,ah _,fun i hi=> ?_,y2.lt⟩;obtain rfl:i=0:=by have:i<1:=hi;omega
  exact ⟨.slice (some ⟨n1,0,none⟩) 1 1,by rw [y2.cell?];rfl,nu.row (l:=([⟨0,3,0⟩]:List Ce)) y1 rfl (fun x _=>rfl)⟩
 ·exact .inr ⟨n1+1+1,0,1,rfl,ah _,y3.at,y3.lt⟩
 ·exact hB.grown qp hB.size (fun k e=>by cases e;exact ah _)
end
section
open Go Go.RowKit Mem
abbrev F9 (w:World) (g:Nat):Prop:=Row oV w g 65 (aJ aX++(aJ aM++aJ aN))
theorem F9.rd {w:World} {g:Nat} (h:F9 w g):nu 4 aJ w (.slice (some ⟨g,0,none⟩) 3 3) [aX,aM,aN]:=nu.row (l:=([aX,aM,aN]:List Cl)) (cs:=aJ aX++(aJ aM++aJ aN)) h rfl (fun x _=>rfl)
structure MI (Y X:World) (l:List UInt8) (B nb g s r:Nat) (pr pe:Option Addr) (kr ke:Nat) (us:List OC):Prop where
 row:Row oV X nb 37 [qz g 3 3,dI pr s kr,dI pe r ke]
 cls:F9 X g
 own:Mem.Own oV X B 62 (.slice pr s kr) us
 len:us.length=s
 each:∀i (h:i<us.length),aT 3 tL X B 61 (oV us[i]) (jl l i 3)
 ends:Mem.Own Value.bool X B 4 (.slice pe r ke) (jV l r)
 ds:∀i j (hi:i<us.length) (hj:j<us.length),i≠j→∀k,(oV us[i]).ownBlock=some k→(oV us[j]).ownBlock≠some k
 below:Below Y.heap.size Y X
 lo:Y.heap.size≤nb∧nb<B∧g<B∧g≠nb∧B≤X.heap.size
section
variable {Y X X':World} {l:List UInt8} {B nb g s r:Nat} {pr pe:Option Addr} {kr ke:Nat} {us:List OC}
theorem MI.mono (h:MI Y X l B nb g s r pr pe kr ke us) (hb:Below X.heap.size X X'):MI Y X' l B nb g s r pr pe kr ke us:=
 ⟨h.row.below hb h.row.lt,h.cls.below hb h.cls.lt,h.own.below' hb,h.len,fun i hi=>(h.each i hi).below' hb,h.ends.below' hb,h.ds,h.below.trans (hb.mono h.below.size),h.lo.1,h.lo.2.1,h.lo.2.2.1,h.lo.2.2.2.1,aL h.lo.2.2.2.2 hb.size⟩
theorem Lb (w:World) (b i:Nat) (v:Value):w.grownBy (w.setCell ⟨b,i,none⟩ v) (some b):=jb (bf (au w.heap.size w) (some b)) i v
theorem aT.far {α:Type} {K:Nat} {enc:α→List OC} {w w':World} {base:Nat} {e:TypeId} {v:Value} {l:List α} (h:aT K enc w base e v l) {b:Nat} (hb:b<base) (hg:w.grownBy w' (some b)):aT K enc w' base e v l:=
 h.grown hg fun k hk e=>by injection e with e;have:=(h.lt k hk).1;omega
theorem wC {α:Type} {f:α→Value} {w w':World} {base:Nat} {e:TypeId} {v:Value} {l:List α} (h:Mem.Own f w base e v l) {b:Nat} (hb:b<base) (hg:w.grownBy w' (some b)):Mem.Own f w' base e v l:=
 h.dK hg fun k hk e=>by injection e with e;have:=(h.lt k hk).1;omega
theorem MI.cells (h:MI Y X l B nb g s r pr pe kr ke us) (u:OC) (hu:aT 3 tL X B 61 (oV u) (jl l s 3)) (o:Obj) {p3:Option Addr} {c3:Nat} {w3:World}
  (hd:∀i (hi:i<us.length) k,(oV us[i]).ownBlock=some k→(oV u).ownBlock≠some k) (hO:Mem.Own oV w3 B 62 (.slice p3 (s+1) c3) (us++[u])) (hG:(X.alloc o).grownBy w3 (Value.slice pr s kr).ownBlock):
  MI Y (w3.setCell ⟨nb,1,none⟩ (.slice p3 (s+1) c3)) l B nb g (s+1) r p3 pe c3 ke (us++[u]):=by
 have ha:=ai (au X.heap.size X) (ah _) o;have h2:=h.mono ha;have hnb:∀k,(Value.slice pr s kr).ownBlock=some k→k≠nb:=fun k hk e=>by have:=(h2.own.lt k hk).1;have:=h2.lo.2.1;omega
 have hng:∀k,(Value.slice pr s kr).ownBlock=some k→k≠g:=fun k hk e=>by have:=(h2.own.lt k hk).1;have:=h2.lo.2.2.1;omega
 have r1:=h2.row.grown hG (fun e=>hnb nb e.symm rfl);have c1:=h2.cls.grown hG (fun e=>hng g e.symm rfl);have e1:∀i (hi:i<us.length),aT 3 tL w3 B 61 (oV us[i]) (jl l i 3):=fun i hi=>(h2.each i hi).grown hG ((h2.each i hi).type h2.own (by decide));have u1:=(hu.below' ha).grown hG ((hu.below' ha).type h2.own (by decide));have d1:=h2.ends.dK hG (mK h2.ends h2.own (by decide));have b1:Below Y.heap.size Y w3:=h2.below.grown hG h2.below.size fun k hk=>by have:=(h2.own.lt k hk).1;have:=h2.lo.1;have:=h2.lo.2.1;omega
 have hg1:=Lb w3 nb 1 (.slice p3 (s+1) c3);have hsz:=hG.size;have hlo:=h2.lo;refine ⟨?_,c1.grown hg1 (fun e=>by injection e with e;exact hlo.2.2.2.1 e),wC hO hlo.2.1 hg1,by rw [fq,h.len];rfl,fun i hi=> ?_,wC d1 hlo.2.1 hg1,?_,aQ b1 1 hlo.1 _,hlo.1,hlo.2.1,hlo.2.2.1,hlo.2.2.2.1,?_⟩
 ·exact r1.set 1 (dI p3 (s+1) c3)
 ·rcases Ik i us.length with hi2 | hi2
  ·rw [Jt hi2];exact (e1 i hi2).far hlo.2.1 hg1
  ·have hie:i=us.length:=by simp at hi;omega
   subst hie;have:(us++[u])[us.length]'hi=u:=by simp
   rw [this,h.len];exact u1.far hlo.2.1 hg1
 ·have hlast:(us++[u])[us.length]'(by simp)=u:=by simp
  intro i j hi hj hij k hk;have hi0:i<us.length+1:=by simpa using hi
  have hj0:j<us.length+1:=by simpa using hj
  rcases Ik i us.length with hi2 | hi2
  ·rw [Jt hi2] at hk;rcases Ik j us.length with hj2 | hj2
   ·rw [Jt hj2];exact h.ds i j hi2 hj2 hij k hk
   ·obtain rfl:j=us.length:=by omega
    rw [hlast];exact hd i hi2 k hk
  ·obtain rfl:i=us.length:=by omega
   rw [hlast] at hk;have hj2:j<us.length:=by omega
   rw [Jt hj2];exact fun e=>hd j hj2 k e hk
 ·have:=hg1.size;omega
theorem MI.flags (h:MI Y X l B nb g s r pr pe kr ke us) (o:Obj) {p3:Option Addr} {c3:Nat} {w3:World}
  (hO:Mem.Own Value.bool w3 B 4 (.slice p3 (r+1) c3) (jV l (r+1))) (hG:(X.alloc o).grownBy w3 (Value.slice pe r ke).ownBlock):
  (Row oV w3 nb 37 [qz g 3 3,dI pr s kr,dI pe r ke]∧Below Y.heap.size Y w3)∧MI Y (w3.setCell ⟨nb,2,none⟩ (.slice p3 (r+1) c3)) l B nb g s (r+1) pr p3 kr c3 us:=by
 have ha:=ai (au X.heap.size X) (ah _) o;have h2:=h.mono ha;have hnb:∀k,(Value.slice pe r ke).ownBlock=some k→k≠nb:=fun k hk e=>by have:=(h2.ends.lt k hk).1;have:=h2.lo.2.1;omega
 have hng:∀k,(Value.slice pe r ke).ownBlock=some k→k≠g:=fun k hk e=>by have:=(h2.ends.lt k hk).1;have:=h2.lo.2.2.1;omega
 have r1:=h2.row.grown hG (fun e=>hnb nb e.symm rfl);have c1:=h2.cls.grown hG (fun e=>hng g e.symm rfl);have e1:∀i (hi:i<us.length),aT 3 tL w3 B 61 (oV us[i]) (jl l i 3):=fun i hi=>(h2.each i hi).grown hG ((h2.each i hi).type h2.ends (by decide));have d1:=h2.own.dK hG (mK h2.own h2.ends (by decide));have b1:Below Y.heap.size Y w3:=h2.below.grown hG h2.below.size fun k hk=>by have:=(h2.ends.lt k hk).1;have:=h2.lo.1;have:=h2.lo.2.1;omega
 have hg1:=Lb w3 nb 2 (.slice p3 (r+1) c3);have hsz:=hG.size;have hlo:=h2.lo;refine ⟨⟨r1,b1⟩,r1.set 2 (dI p3 (r+1) c3),c1.grown hg1 (fun e=>by injection e with e;exact hlo.2.2.2.1 e),wC d1 hlo.2.1 hg1,h.len,fun i hi=>(e1 i hi).far hlo.2.1 hg1,wC hO hlo.2.1 hg1,h.ds,aQ b1 2 hlo.1 _,hlo.1,hlo.2.1,hlo.2.2.1,hlo.2.2.2.1,?_⟩;have:=hg1.size;omega
end
end
section
open Go Go.RowKit Mem
theorem abI:yM Tryz.prog 62 61 3 24:=yM.mk' (z:= .agg #[.int .i64 0, .int .i64 0, .int .u8 0]) Tryz.underlying62 (by kernel_rfl) rfl
theorem adb:lF Tryz.prog 34 62 24:=lF.mk' (z:= .slice none 0 0) Tryz.underlying34 (by kernel_rfl) rfl
theorem acS:lF Tryz.prog 35 4 1:=lF.mk' (z:= .bool false) Tryz.underlying35 (by kernel_rfl) rfl
theorem Jj (c:Ce):(tL c).length=3:=rfl
theorem QM (x:Bool):(Value.bool x).oneCell'=true:=rfl
theorem Ji:(aM.union aN).Pp=aX:=by decide+kernel
theorem adp (w:World) (p:Option Addr) (c:Nat) (l:List UInt8) (hv:Rd aV w (.slice p l.length c) l):Calls Tryz.prog 9 #[.slice p l.length c] w fun e w'=>∃(B g nb:Nat) (pr pe:Option Addr) (kr ke:Nat) (us:List OC) (X2 X:World),e= .returned (.agg #[.slice (some ⟨g,0,none⟩) 3 3, .slice pr (bD l) kr, .slice pe (bD l) ke])∧MI X2 X l B nb g (bD l) (bD l) pr pe kr ke us∧Below w.heap.size w X∧Row oV X w.heap.size 37 [on,on,on]∧w.heap.size<X2.heap.size∧w.heap.size<g∧X.grownBy w' (some w.heap.size):=by
 have HV:=af hv;clear hv;go_enter Tryz.func9,Tryz.ntmps9;go_upto_region 2 with (fail)
 obtain ⟨W,hW,hB,hs,r0⟩:∃W,(w.alloc (.cells #[.slice none 0 0, .slice none 0 0, .slice none 0 0] 37))=W∧Below w.heap.size w W∧w.heap.size+1≤W.heap.size∧Row oV W w.heap.size 37 [on,on,on]:=
  ⟨_,rfl,ai (au _ _) (ah _) _,by simp,Row.new _ _ rfl⟩
 rw [hW];clear hW;go_cut [13] (fun s13 wx=>s13= .bool (decide (0<l.length))∧wx=W)
 ·go_wp2;go_meet;exact ⟨by simp,rfl⟩
 obtain ⟨h13,rfl⟩:=hcut;rename_i hK;refine hK _ _ ?_;clear hK;go_cut [3] (fun s3 wx=>s3= .int .i64 (bD l:Nat)∧wx=wc)
 ·by_cases h0:0<l.length
  ·rw [nE h0] at h13;subst h13;have hq:(0:Int)<(l.length:Int):=by omega
   obtain ⟨b,o,rfl,hcl⟩:∃b o,p=some ⟨b,o,none⟩∧wc.cell? ⟨b,o,none⟩=some (.int .u8 (l[0].toNat:Int)):=by
    rcases HV.out with ⟨_,_,e0⟩ | ⟨b,o,cap,he,hc,hat,hbl⟩
    ·rw [e0] at h0;simp at h0
    ·cases he;refine ⟨b,o,rfl,?_⟩;have:=hat 0 h0;rw [hB.cell (p:=⟨b,o,none⟩) hbl];rw [x8,bM h0] at this;exact this
   have HM:Hid (bD l=1+l[0].toNat % 4):=af (by unfold bD;rw [aC h0,bM h0];rfl);have hx1:((l[0].toNat:Nat):Int).tmod 4=((l[0].toNat % 4:Nat):Int):=by rw [LG (by omega)];omega
   have hx2:((l[0].toNat:Nat):Int) % 4=((l[0].toNat % 4:Nat):Int):=by omega
   have hx3:l[0].toNat % 4<4:=U9 _ (by omega);generalize l[0].toNat=y at *;generalize y % 4=x at *;have hw1:IntKind.u8.wrap (x:Int)=(x:Int):=by rw [G6];omega
   have hw2:wrap64 (x:Int)=(x:Int):=by unfold wrap64;omega
   have hw3:wrap64 (1+(x:Int))=1+(x:Int):=by unfold wrap64;omega
   go_wp2;go_meet;have e1:((1+x:Nat):Int)=1+(x:Int):=by omega
   exact ⟨by rw [HM.out,e1]<;>(first | rfl | rw [hw3]),rfl⟩
  ·rw [jI h0] at h13;subst h13;have hq:¬(0:Int)<(l.length:Int):=by omega
   have HM:Hid (bD l=1):=af (by unfold bD;rw [aF h0]);go_wp2;go_meet;exact ⟨by rw [HM.out];rfl,rfl⟩
 obtain ⟨rfl,rfl⟩:=hcut;clear h13;have hst:=xG l;generalize hsn:bD l=sn at *;clear hs;go_upto_region 4 with (fail);go_wp2_with fail;have OV:Rd aV (wc.alloc (.cells #[.int .u8 97] 5)) (.slice (some ⟨wc.heap.size,0,none⟩) 1 1) [97]:= .inr ⟨wc.heap.size,0,1,rfl,ah _,(Row.new (f:=aV) (l:=[97]) wc _ rfl).at,by simp⟩;have hb:=ai (au wc.heap.size wc) (ah _) (.cells #[.int .u8 97] 5);generalize (wc.alloc (.cells #[.int .u8 97] 5))=AX1 at *;refine (aeC AX1 _ [97] OV (by simp)).mono ?_;rintro e Zq ⟨rfl,hb2⟩;rw [show gD [97]=aM from by decide+kernel];have hb3:=hb.trans (hb2.mono hb.size);replace r0:=r0.below hb3 r0.lt;replace hB:=hB.trans (hb3.mono hB.size);have agF:w.heap.size<Zq.heap.size:=r0.lt;have hz:Row oV (Zq.alloc (.cells #[.int .u64 0, .int .u64 0, .int .u64 0, .int .u64 0] 65)) Zq.heap.size 65 [ow 0,ow 0,ow 0,ow 0]:=Row.new _ _ rfl;go_upto_region 5 with (((with_reducible refine zS (l':=aJ aM) hz ay ?_);(intro X1 s4 hG1 hz1)));have hb4:=j6 (au Zq.heap.size Zq) hG1;replace r0:=r0.below hb4 r0.lt;replace hB:=hB.trans (hb4.mono hB.size);clear OV hb hb2 hb3 hz hG1 hz1 hb4;generalize Zq.heap.size=ns4 at *;go_wp2_with fail;have OV:Rd aV (X1.alloc (.cells #[.int .u8 98] 5)) (.slice (some ⟨X1.heap.size,0,none⟩) 1 1) [98]:= .inr ⟨X1.heap.size,0,1,rfl,ah _,(Row.new (f:=aV) (l:=[98]) X1 _ rfl).at,by simp⟩;have hb:=ai (au X1.heap.size X1) (ah _) (.cells #[.int .u8 98] 5);generalize (X1.alloc (.cells #[.int .u8 98] 5))=AX2 at *;refine (aeC AX2 _ [98] OV (by simp)).mono ?_;rintro e Y5 ⟨rfl,hb2⟩;rw [show gD [98]=aN from by decide+kernel];have hb3:=hb.trans (hb2.mono hb.size);replace r0:=r0.below hb3 r0.lt;replace s4:=s4.below hb3 s4.lt;replace hB:=hB.trans (hb3.mono hB.size);have agh:w.heap.size<Y5.heap.size:=r0.lt;have hz:Row oV (Y5.alloc (.cells #[.int .u64 0, .int .u64 0, .int .u64 0, .int .u64 0] 65)) Y5.heap.size 65 [ow 0,ow 0,ow 0,ow 0]:=Row.new _ _ rfl;go_upto_region 6 with (((with_reducible refine zS (l':=aJ aN) hz ay ?_);(intro X2 s5 hG1 hz1)));have hb4:=j6 (au Y5.heap.size Y5) hG1;replace r0:=r0.below hb4 r0.lt;replace s4:=s4.below hb4 s4.lt;replace hB:=hB.trans (hb4.mono hB.size);clear OV hb hb2 hb3 hz hG1 hz1 hb4;generalize Y5.heap.size=ns5 at *;rw [FI];go_cut [6] (fun s6 wx=>∃nb g,s6= .pointer (some ⟨nb,0,none⟩)∧X2.heap.size≤nb∧X2.heap.size≤g∧g≠nb∧Row oV wx nb 37 [qz g 3 3,on,on]∧F9 wx g∧Below X2.heap.size X2 wx)
 ·refine aH (S:=fun X=>Below X2.heap.size X2 X) 9 rfl (by kernel_rfl) (au _ _).drew fun hS=> ?_;refine tk 0 24 (.agg (ax aM)) hS ?_ rfl (aA (f:=oV) (l:=aJ aM) ay (.tmp 4) rfl ns4 0 rfl (fun W' h=>(s4.below h s4.lt).at) rfl rfl);refine tk 1 25 (.agg (ax aN)) hS ?_ rfl (aA (f:=oV) (l:=aJ aN) ay (.tmp 5) rfl ns5 0 rfl (fun W' h=>(s5.below h s5.lt).at) rfl rfl);refine tk 4 28 (.agg (ax aM)) hS ?_ rfl (aA (f:=oV) (l:=aJ aM) ay (.tmp 4) rfl ns4 0 rfl (fun W' h=>(s4.below h s4.lt).at) rfl rfl);refine tk 5 29 (.agg (ax aN)) hS ?_ rfl (aA (f:=oV) (l:=aJ aN) ay (.tmp 5) rfl ns5 0 rfl (fun W' h=>(s5.below h s5.lt).at) rfl rfl);refine lH (rs:=[2,8]) (by kernel_rfl) (by simp) (dx.cons (by omega) rfl (fun K' hK=> ?_) (dx.cons (by omega) rfl (fun K' hK=> ?_) dx.nil))
  ·refine cD 26 40 #[.agg (ax aM), .agg (ax aN)] ?_;refine (VY _ aM aN).mono ?_;rintro e A1 ⟨rfl,hBx⟩;replace hS:=hS.trans (hBx.mono hS.size);refine ⟨_,rfl,hK.out _ _ hS fun _=> ?_⟩;clear hK;simp only [sA,sB,sC];refine lH (rs:=[3,8]) (by kernel_rfl) (by simp) (dx.cons (by omega) rfl (fun K' hK=> ?_) (dx.cons (by omega) rfl (fun K' hK=> ?_) dx.nil))
   ·refine cD 27 39 #[.agg (ax (aM.union aN))] ?_;refine (abC _ (aM.union aN)).mono ?_;rintro e A2 ⟨rfl,hBx⟩;rw [Ji];replace hS:=hS.trans (hBx.mono hS.size);refine ⟨_,rfl,hK.out _ _ hS fun _=> ?_⟩;clear hK;simp only [sA,sB,sC];refine lH (rs:=[6,8]) (by kernel_rfl) (by simp) (dx.cons (by omega) rfl (fun K' hK=> ?_) (dx.cons (by omega) rfl (fun K' hK=> ?_) dx.nil))
    ·have hBx:=ai (au A2.heap.size A2) (ah _) (.cells #[.int .u64 (X aX.a), .int .u64 (X aX.b), .int .u64 (X aX.c), .int .u64 (X aX.d), .int .u64 (X aM.a), .int .u64 (X aM.b), .int .u64 (X aM.c), .int .u64 (X aM.d), .int .u64 (X aN.a), .int .u64 (X aN.b), .int .u64 (X aN.c), .int .u64 (X aN.d)] 65);have hR:F9 (A2.alloc (.cells #[.int .u64 (X aX.a), .int .u64 (X aX.b), .int .u64 (X aX.c), .int .u64 (X aX.d), .int .u64 (X aM.a), .int .u64 (X aM.b), .int .u64 (X aM.c), .int .u64 (X aM.d), .int .u64 (X aN.a), .int .u64 (X aN.b), .int .u64 (X aN.c), .int .u64 (X aN.d)] 65)) A2.heap.size:=Row.new A2 (.cells #[.int .u64 (X aX.a), .int .u64 (X aX.b), .int .u64 (X aX.c), .int .u64 (X aX.d), .int .u64 (X aM.a), .int .u64 (X aM.b), .int .u64 (X aM.c), .int .u64 (X aM.d), .int .u64 (X aN.a), .int .u64 (X aN.b), .int .u64 (X aN.c), .int .u64 (X aN.d)] 65) rfl;refine uC (d:=30) (v:= .slice (some ⟨A2.heap.size,0,none⟩) 3 3) (w':=A2.alloc (.cells #[.int .u64 (X aX.a), .int .u64 (X aX.b), .int .u64 (X aX.c), .int .u64 (X aX.d), .int .u64 (X aM.a), .int .u64 (X aM.b), .int .u64 (X aM.c), .int .u64 (X aM.d), .int .u64 (X aN.a), .int .u64 (X aN.b), .int .u64 (X aN.c), .int .u64 (X aN.d)] 65)) rfl rfl (by first | rfl | kernel_rfl | (simp [execOp,go_sem];done)) ?_;have Og:X2.heap.size≤A2.heap.size:=hS.size;generalize (A2.alloc (.cells #[.int .u64 (X aX.a), .int .u64 (X aX.b), .int .u64 (X aX.c), .int .u64 (X aX.d), .int .u64 (X aM.a), .int .u64 (X aM.b), .int .u64 (X aM.c), .int .u64 (X aM.d), .int .u64 (X aN.a), .int .u64 (X aN.b), .int .u64 (X aN.c), .int .u64 (X aN.d)] 65))=A3 at *;have hgl:A2.heap.size<A3.heap.size:=hR.lt;replace hS:=hS.trans (hBx.mono hS.size);refine hK.out _ _ hS fun _=> ?_;clear hK;simp only [sA,sB,sC];refine tk 7 31 (.agg #[.slice (some ⟨A2.heap.size,0,none⟩) 3 3, .slice none 0 0, .slice none 0 0]) hS ?_;refine iZ 8 (fun K' hK=> ?_)
     ·have hBx:=ai (au A3.heap.size A3) (ah _) (.cells #[.slice none 0 0, .slice none 0 0, .slice none 0 0] 37);have hz:Row oV (A3.alloc (.cells #[.slice none 0 0, .slice none 0 0, .slice none 0 0] 37)) A3.heap.size 37 [on,on,on]:=Row.new _ _ rfl;refine aD 6 (.cells #[.slice none 0 0, .slice none 0 0, .slice none 0 0] 37) ?_;have Lu:X2.heap.size≤A3.heap.size:=hS.size;have hgn:A2.heap.size≠A3.heap.size:=fun e=>by have:=hgl;omega
      generalize (A3.alloc (.cells #[.slice none 0 0, .slice none 0 0, .slice none 0 0] 37))=A4 at *;replace hR:=hR.below hBx hR.lt;replace hgl:=bO hgl hBx.size;replace hS:=hS.trans (hBx.mono hS.size);refine hK.out _ _ hS fun _=> ?_;clear hK;simp only [sA,sB,sC];refine aP (by kernel_rfl) ?_;simp only [List.drop];go_wp2_with (((with_reducible refine zS (l':=[qz A2.heap.size 3 3,on,on]) hz kz ?_);(intro Y EP qp XR)));go_meet;exact ⟨A3.heap.size,A2.heap.size,rfl,Lu,Og,hgn,EP,hR.grown qp (fun e=>by injection e with e;exact hgn e),hS.grown qp hS.size (fun j e=>by cases e;exact Lu)⟩
    ·have hBx:=ai (au A2.heap.size A2) (ah _) (.cells #[.slice none 0 0, .slice none 0 0, .slice none 0 0] 37);have hz:Row oV (A2.alloc (.cells #[.slice none 0 0, .slice none 0 0, .slice none 0 0] 37)) A2.heap.size 37 [on,on,on]:=Row.new _ _ rfl;refine aD 6 (.cells #[.slice none 0 0, .slice none 0 0, .slice none 0 0] 37) ?_;have Lu:X2.heap.size≤A2.heap.size:=hS.size;generalize (A2.alloc (.cells #[.slice none 0 0, .slice none 0 0, .slice none 0 0] 37))=A5 at *;replace hS:=hS.trans (hBx.mono hS.size);refine hK.out _ _ hS fun _=> ?_;clear hK;simp only [sA,sB,sC];refine iZ 6 (fun K' hK=> ?_)
     ·have hBx:=ai (au A5.heap.size A5) (ah _) (.cells #[.int .u64 (X aX.a), .int .u64 (X aX.b), .int .u64 (X aX.c), .int .u64 (X aX.d), .int .u64 (X aM.a), .int .u64 (X aM.b), .int .u64 (X aM.c), .int .u64 (X aM.d), .int .u64 (X aN.a), .int .u64 (X aN.b), .int .u64 (X aN.c), .int .u64 (X aN.d)] 65);have hR:F9 (A5.alloc (.cells #[.int .u64 (X aX.a), .int .u64 (X aX.b), .int .u64 (X aX.c), .int .u64 (X aX.d), .int .u64 (X aM.a), .int .u64 (X aM.b), .int .u64 (X aM.c), .int .u64 (X aM.d), .int .u64 (X aN.a), .int .u64 (X aN.b), .int .u64 (X aN.c), .int .u64 (X aN.d)] 65)) A5.heap.size:=Row.new A5 (.cells #[.int .u64 (X aX.a), .int .u64 (X aX.b), .int .u64 (X aX.c), .int .u64 (X aX.d), .int .u64 (X aM.a), .int .u64 (X aM.b), .int .u64 (X aM.c), .int .u64 (X aM.d), .int .u64 (X aN.a), .int .u64 (X aN.b), .int .u64 (X aN.c), .int .u64 (X aN.d)] 65) rfl;refine uC (d:=30) (v:= .slice (some ⟨A5.heap.size,0,none⟩) 3 3) (w':=A5.alloc (.cells #[.int .u64 (X aX.a), .int .u64 (X aX.b), .int .u64 (X aX.c), .int .u64 (X aX.d), .int .u64 (X aM.a), .int .u64 (X aM.b), .int .u64 (X aM.c), .int .u64 (X aM.d), .int .u64 (X aN.a), .int .u64 (X aN.b), .int .u64 (X aN.c), .int .u64 (X aN.d)] 65)) rfl rfl (by first | rfl | kernel_rfl | (simp [execOp,go_sem];done)) ?_;have Og:X2.heap.size≤A5.heap.size:=hS.size;have hgn:A5.heap.size≠A2.heap.size:=fun e=>by have:=hz.lt;omega
      generalize (A5.alloc (.cells #[.int .u64 (X aX.a), .int .u64 (X aX.b), .int .u64 (X aX.c), .int .u64 (X aX.d), .int .u64 (X aM.a), .int .u64 (X aM.b), .int .u64 (X aM.c), .int .u64 (X aM.d), .int .u64 (X aN.a), .int .u64 (X aN.b), .int .u64 (X aN.c), .int .u64 (X aN.d)] 65))=A6 at *;replace hz:=hz.below hBx hz.lt;have hgl:A5.heap.size<A6.heap.size:=hR.lt;replace hS:=hS.trans (hBx.mono hS.size);refine hK.out _ _ hS fun _=> ?_;clear hK;simp only [sA,sB,sC];refine tk 7 31 (.agg #[.slice (some ⟨A5.heap.size,0,none⟩) 3 3, .slice none 0 0, .slice none 0 0]) hS ?_;refine aP (by kernel_rfl) ?_;simp only [List.drop];go_wp2_with (((with_reducible refine zS (l':=[qz A5.heap.size 3 3,on,on]) hz kz ?_);(intro Y EP qp XR)));go_meet;exact ⟨A2.heap.size,A5.heap.size,rfl,Lu,Og,hgn,EP,hR.grown qp (fun e=>by injection e with e;exact hgn e),hS.grown qp hS.size (fun j e=>by cases e;exact Lu)⟩
   ·have hBx:=ai (au A1.heap.size A1) (ah _) (.cells #[.slice none 0 0, .slice none 0 0, .slice none 0 0] 37);have hz:Row oV (A1.alloc (.cells #[.slice none 0 0, .slice none 0 0, .slice none 0 0] 37)) A1.heap.size 37 [on,on,on]:=Row.new _ _ rfl;refine aD 6 (.cells #[.slice none 0 0, .slice none 0 0, .slice none 0 0] 37) ?_;have Lu:X2.heap.size≤A1.heap.size:=hS.size;generalize (A1.alloc (.cells #[.slice none 0 0, .slice none 0 0, .slice none 0 0] 37))=A7 at *;replace hS:=hS.trans (hBx.mono hS.size);refine hK.out _ _ hS fun _=> ?_;clear hK;simp only [sA,sB,sC];refine iZ 3 (fun K' hK=> ?_)
    ·refine cD 27 39 #[.agg (ax (aM.union aN))] ?_;refine (abC _ (aM.union aN)).mono ?_;rintro e A8 ⟨rfl,hBx⟩;rw [Ji];replace hz:=hz.below hBx hz.lt;replace hS:=hS.trans (hBx.mono hS.size);refine ⟨_,rfl,hK.out _ _ hS fun _=> ?_⟩;clear hK;simp only [sA,sB,sC];refine iZ 6 (fun K' hK=> ?_)
     ·have hBx:=ai (au A8.heap.size A8) (ah _) (.cells #[.int .u64 (X aX.a), .int .u64 (X aX.b), .int .u64 (X aX.c), .int .u64 (X aX.d), .int .u64 (X aM.a), .int .u64 (X aM.b), .int .u64 (X aM.c), .int .u64 (X aM.d), .int .u64 (X aN.a), .int .u64 (X aN.b), .int .u64 (X aN.c), .int .u64 (X aN.d)] 65);have hR:F9 (A8.alloc (.cells #[.int .u64 (X aX.a), .int .u64 (X aX.b), .int .u64 (X aX.c), .int .u64 (X aX.d), .int .u64 (X aM.a), .int .u64 (X aM.b), .int .u64 (X aM.c), .int .u64 (X aM.d), .int .u64 (X aN.a), .int .u64 (X aN.b), .int .u64 (X aN.c), .int .u64 (X aN.d)] 65)) A8.heap.size:=Row.new A8 (.cells #[.int .u64 (X aX.a), .int .u64 (X aX.b), .int .u64 (X aX.c), .int .u64 (X aX.d), .int .u64 (X aM.a), .int .u64 (X aM.b), .int .u64 (X aM.c), .int .u64 (X aM.d), .int .u64 (X aN.a), .int .u64 (X aN.b), .int .u64 (X aN.c), .int .u64 (X aN.d)] 65) rfl;refine uC (d:=30) (v:= .slice (some ⟨A8.heap.size,0,none⟩) 3 3) (w':=A8.alloc (.cells #[.int .u64 (X aX.a), .int .u64 (X aX.b), .int .u64 (X aX.c), .int .u64 (X aX.d), .int .u64 (X aM.a), .int .u64 (X aM.b), .int .u64 (X aM.c), .int .u64 (X aM.d), .int .u64 (X aN.a), .int .u64 (X aN.b), .int .u64 (X aN.c), .int .u64 (X aN.d)] 65)) rfl rfl (by first | rfl | kernel_rfl | (simp [execOp,go_sem];done)) ?_;have Og:X2.heap.size≤A8.heap.size:=hS.size;have hgn:A8.heap.size≠A1.heap.size:=fun e=>by have:=hz.lt;omega
      generalize (A8.alloc (.cells #[.int .u64 (X aX.a), .int .u64 (X aX.b), .int .u64 (X aX.c), .int .u64 (X aX.d), .int .u64 (X aM.a), .int .u64 (X aM.b), .int .u64 (X aM.c), .int .u64 (X aM.d), .int .u64 (X aN.a), .int .u64 (X aN.b), .int .u64 (X aN.c), .int .u64 (X aN.d)] 65))=A9 at *;replace hz:=hz.below hBx hz.lt;have hgl:A8.heap.size<A9.heap.size:=hR.lt;replace hS:=hS.trans (hBx.mono hS.size);refine hK.out _ _ hS fun _=> ?_;clear hK;simp only [sA,sB,sC];refine tk 7 31 (.agg #[.slice (some ⟨A8.heap.size,0,none⟩) 3 3, .slice none 0 0, .slice none 0 0]) hS ?_;refine aP (by kernel_rfl) ?_;simp only [List.drop];go_wp2_with (((with_reducible refine zS (l':=[qz A8.heap.size 3 3,on,on]) hz kz ?_);(intro Y EP qp XR)));go_meet;exact ⟨A1.heap.size,A8.heap.size,rfl,Lu,Og,hgn,EP,hR.grown qp (fun e=>by injection e with e;exact hgn e),hS.grown qp hS.size (fun j e=>by cases e;exact Lu)⟩
  ·have hBx:=ai (au X2.drew.heap.size X2.drew) (ah _) (.cells #[.slice none 0 0, .slice none 0 0, .slice none 0 0] 37);have hz:Row oV (X2.drew.alloc (.cells #[.slice none 0 0, .slice none 0 0, .slice none 0 0] 37)) X2.drew.heap.size 37 [on,on,on]:=Row.new _ _ rfl;refine aD 6 (.cells #[.slice none 0 0, .slice none 0 0, .slice none 0 0] 37) ?_;have Lu:X2.heap.size≤X2.drew.heap.size:=hS.size;generalize (X2.drew.alloc (.cells #[.slice none 0 0, .slice none 0 0, .slice none 0 0] 37))=A10 at *;replace hS:=hS.trans (hBx.mono hS.size);refine hK.out _ _ hS fun _=> ?_;clear hK;simp only [sA,sB,sC];refine iZ 2 (fun K' hK=> ?_)
   ·refine cD 26 40 #[.agg (ax aM), .agg (ax aN)] ?_;refine (VY _ aM aN).mono ?_;rintro e A11 ⟨rfl,hBx⟩;replace hz:=hz.below hBx hz.lt;replace hS:=hS.trans (hBx.mono hS.size);refine ⟨_,rfl,hK.out _ _ hS fun _=> ?_⟩;clear hK;simp only [sA,sB,sC];refine iZ 3 (fun K' hK=> ?_)
    ·refine cD 27 39 #[.agg (ax (aM.union aN))] ?_;refine (abC _ (aM.union aN)).mono ?_;rintro e D7 ⟨rfl,hBx⟩;rw [Ji];replace hz:=hz.below hBx hz.lt;replace hS:=hS.trans (hBx.mono hS.size);refine ⟨_,rfl,hK.out _ _ hS fun _=> ?_⟩;clear hK;simp only [sA,sB,sC];refine iZ 6 (fun K' hK=> ?_)
     ·have hBx:=ai (au D7.heap.size D7) (ah _) (.cells #[.int .u64 (X aX.a), .int .u64 (X aX.b), .int .u64 (X aX.c), .int .u64 (X aX.d), .int .u64 (X aM.a), .int .u64 (X aM.b), .int .u64 (X aM.c), .int .u64 (X aM.d), .int .u64 (X aN.a), .int .u64 (X aN.b), .int .u64 (X aN.c), .int .u64 (X aN.d)] 65);have hR:F9 (D7.alloc (.cells #[.int .u64 (X aX.a), .int .u64 (X aX.b), .int .u64 (X aX.c), .int .u64 (X aX.d), .int .u64 (X aM.a), .int .u64 (X aM.b), .int .u64 (X aM.c), .int .u64 (X aM.d), .int .u64 (X aN.a), .int .u64 (X aN.b), .int .u64 (X aN.c), .int .u64 (X aN.d)] 65)) D7.heap.size:=Row.new D7 (.cells #[.int .u64 (X aX.a), .int .u64 (X aX.b), .int .u64 (X aX.c), .int .u64 (X aX.d), .int .u64 (X aM.a), .int .u64 (X aM.b), .int .u64 (X aM.c), .int .u64 (X aM.d), .int .u64 (X aN.a), .int .u64 (X aN.b), .int .u64 (X aN.c), .int .u64 (X aN.d)] 65) rfl;refine uC (d:=30) (v:= .slice (some ⟨D7.heap.size,0,none⟩) 3 3) (w':=D7.alloc (.cells #[.int .u64 (X aX.a), .int .u64 (X aX.b), .int .u64 (X aX.c), .int .u64 (X aX.d), .int .u64 (X aM.a), .int .u64 (X aM.b), .int .u64 (X aM.c), .int .u64 (X aM.d), .int .u64 (X aN.a), .int .u64 (X aN.b), .int .u64 (X aN.c), .int .u64 (X aN.d)] 65)) rfl rfl (by first | rfl | kernel_rfl | (simp [execOp,go_sem];done)) ?_;have Og:X2.heap.size≤D7.heap.size:=hS.size;have hgn:D7.heap.size≠X2.drew.heap.size:=fun e=>by have:=hz.lt;omega
      generalize (D7.alloc (.cells #[.int .u64 (X aX.a), .int .u64 (X aX.b), .int .u64 (X aX.c), .int .u64 (X aX.d), .int .u64 (X aM.a), .int .u64 (X aM.b), .int .u64 (X aM.c), .int .u64 (X aM.d), .int .u64 (X aN.a), .int .u64 (X aN.b), .int .u64 (X aN.c), .int .u64 (X aN.d)] 65))=A13 at *;replace hz:=hz.below hBx hz.lt;have hgl:D7.heap.size<A13.heap.size:=hR.lt;replace hS:=hS.trans (hBx.mono hS.size);refine hK.out _ _ hS fun _=> ?_;clear hK;simp only [sA,sB,sC];refine tk 7 31 (.agg #[.slice (some ⟨D7.heap.size,0,none⟩) 3 3, .slice none 0 0, .slice none 0 0]) hS ?_;refine aP (by kernel_rfl) ?_;simp only [List.drop];go_wp2_with (((with_reducible refine zS (l':=[qz D7.heap.size 3 3,on,on]) hz kz ?_);(intro Y EP qp XR)));go_meet;exact ⟨X2.drew.heap.size,D7.heap.size,rfl,Lu,Og,hgn,EP,hR.grown qp (fun e=>by injection e with e;exact hgn e),hS.grown qp hS.size (fun j e=>by cases e;exact Lu)⟩
 obtain ⟨nb,g,rfl,hnb,hg,hgn,hrow,hR,hb⟩:=hcut;have hlr:w.heap.size<X2.heap.size:=r0.lt
 have HI:Hid (∀i (h:i<l.length),∃b o,p=some ⟨b,o,none⟩∧∀X,Below X2.heap.size X2 X→X.cell? ⟨b,o+i,none⟩=some (.int .u8 (l[i].toNat:Int))):=af fun i hi=>by
  rcases HV.out with ⟨_,_,e0⟩ | ⟨b,o,cap,he,hc,hat,hbl⟩
  ·rw [e0] at hi;simp at hi
  ·cases he;refine ⟨b,o,rfl,fun X hX=> ?_⟩;rw [hX.cell (p:=⟨b,o+i,none⟩) (by show b<X2.heap.size;omega),hB.cell (p:=⟨b,o+i,none⟩) hbl,hat i hi,bM hi];rfl
 obtain ⟨B,abl⟩:∃B,B=wc.heap.size:=⟨_,rfl⟩
 have HM0:MI X2 wc l B nb g 0 0 none none 0 0 []:=by
  subst abl;have hgl:g<wc.heap.size:=hR.lt;exact ⟨hrow,hR,Own.nil _ _ _,rfl,fun i hi=>by simp at hi,Own.nil _ _ _,fun i j hi=>by simp at hi,hb,hnb,hrow.lt,hgl,hgn,ah _⟩
 have K6:=af r0;have HB0:=af hB;clear r0 s4 s5 hB agF agh hrow hR hb hnb hgn abl HV;replace HM0:=af HM0;have HG:=af hg;clear hg;go_upto_region 7 with (fail);go_upto_region 8 with (fail)
 go_loopw [7,8,9,10] (fun s7 s8 s9 s10 wr=>∃(s:Nat) (pr pe:Option Addr) (kr ke:Nat) (us:List OC),s≤sn∧s7= .int .i64 s∧Hid (MI X2 wr l B nb g s s pr pe kr ke us)) (fun i _ _ _ _=>sn - (intOf i).toNat)
 case atStart=>exact ⟨0,none,none,0,0,[],by omega,rfl,HM0⟩
 case round=>
  obtain ⟨s,pr,pe,kr,ke,us,hsl,rfl,HM⟩:=hrel;by_cases hlt:s<sn
  ·have hq:(s:Int)<(sn:Int):=by omega
   go_upto_region 12 with (fail);have vz:aT 3 tL (wr.alloc (.cells #[] 61)) wr.heap.size 61 (.slice (some ⟨wr.heap.size,0,none⟩) 0 0) (jl l s 0):=aT.ad1 wr wr.heap.size 61 (ah _);have hb0:=ai (au wr.heap.size wr) (ah _) (.cells #[] 61);generalize (wr.alloc (.cells #[] 61))=wA at *
   go_loopw [8,9,10] (fun s8 s9 s10 wq=>∃(k:Nat) (p8:Option Addr) (c8:Nat),k≤3∧s9= .int .i64 k∧s8= .slice p8 k c8∧aT 3 tL wq wr.heap.size 61 (.slice p8 k c8) (jl l s k)∧Below wr.heap.size wr wq) (fun _ i _ _=>3 - (intOf i).toNat)
   case atStart=>exact ⟨0,_,0,by omega,rfl,rfl,vz,hb0⟩
   case round=>
    clear vz hb0;obtain ⟨k,p8,c8,hk3,rfl,rfl,hO,hb2⟩:=hrel;by_cases hkt:k<3
    ·have hq2:(k:Int)<3:=by omega
     obtain ⟨m,hm⟩:∃m:Nat,m=1+4 * s+k:=⟨_,rfl⟩
     have a5:1+4 * (s:Int)+(k:Int)=(m:Int):=by omega
     replace hm:=af hm;have HMR:=af (RZ l s k);have hms:Hid (bD l=sn):=af hsn;by_cases hin:m<l.length
     ·have hq3:(m:Int)<(l.length:Int):=by omega
      have hx:Hid (R8 l s k=(l[m]'hin).toNat):=af (by unfold R8;rw [← hm.out,aC hin,bM hin];rfl);obtain ⟨b,o,rfl,hcl⟩:=HI.out m hin;have hc:=hcl _ (HM.out.mono hb2).below;clear hcl;have hyl:(l[m]'hin).toNat<256:=(l[m]'hin).toNat_lt;generalize (l[m]'hin).toNat=y at *;have hw2:wrap64 (y:Int)=(y:Int):=by unfold wrap64;omega
      go_wp2_with fail;clear hc;refine (aa4 _ y sn hyl hst).mono ?_;rintro e w5 ⟨rfl,hb5⟩;replace hO:=hO.below' hb5;have hb6:=hb2.trans (hb5.mono hb2.size);clear hb5 hb2;have hln:=dZ l s k;have hr:Hid (jl l s k++[jH y sn]=jl l s (k+1)):=af (by rw [HMR.out,hx.out,hms.out]);replace hO:=af hO;go_wp2_with (at_builtin;(with_reducible refine oF abI (by decide) Jj (.tmp 59) (.tmp 63) ?_ ?_ ?_ hO.out (jH y sn) (DT (jH y sn)) ?_ 61 ?_ ?_ ?_ ?_ (jl l s (k+1)) ?_ ?_);rfl;rfl;rfl;rfl;rfl;(rw [dZ];omega);(rw [dZ];omega);(exact hb6.size);(exact hr.out);(intro p9 c9 w6 y8 gH dw))
      go_roundw
      case rel=>exact ⟨k+1,p9,c9,by omega,by go_num,by rw [dZ],by rw [dZ] at y8;exact y8,hb6.trans gH⟩
      case measure=>simp [intOf]<;>omega
     ·have hq3:¬(m:Int)<(l.length:Int):=by omega
      have hx:Hid (R8 l s k=0):=af (by unfold R8;rw [← hm.out,aF hin]);go_wp2_with fail;refine (aa4 _ 0 sn (by omega) hst).mono ?_;rintro e w5 ⟨rfl,hb5⟩;replace hO:=hO.below' hb5;have hb6:=hb2.trans (hb5.mono hb2.size);clear hb5 hb2;have hln:=dZ l s k;have hr:Hid (jl l s k++[jH 0 sn]=jl l s (k+1)):=af (by rw [HMR.out,hx.out,hms.out]);replace hO:=af hO;go_wp2_with (at_builtin;(with_reducible refine oF abI (by decide) Jj (.tmp 59) (.tmp 63) ?_ ?_ ?_ hO.out (jH 0 sn) (DT (jH 0 sn)) ?_ 61 ?_ ?_ ?_ ?_ (jl l s (k+1)) ?_ ?_);rfl;rfl;rfl;rfl;rfl;(rw [dZ];omega);(rw [dZ];omega);(exact hb6.size);(exact hr.out);(intro p9 c9 w6 y8 gH dw))
      go_roundw
      case rel=>exact ⟨k+1,p9,c9,by omega,by go_num,by rw [dZ],by rw [dZ] at y8;exact y8,hb6.trans gH⟩
      case measure=>simp [intOf]<;>omega
    ·obtain rfl:k=3:=by omega
     have U3:=HM.out.mono hb2;have hO3:=hO.mono (HM.out.lo.2.2.2.2);have hlo:nb<B∧B≤wr.heap.size:=⟨U3.lo.2.1,U3.lo.2.2.2.2⟩
     have c1:wr.cell? ⟨nb,1,none⟩=some (.slice pr s kr):=by rw [U3.row.cell?];rfl
     have f1:=U3.row.frozen 1;have vS:=U3.len;have hlen:(us++[dI p8 3 c8]).length=s+1:=by rw [fq,vS];rfl
     have HM3:=af U3;have MC:=af hlen;have HUS:=af vS
     have HD:Hid (∀i (hi:i<us.length) k,(oV us[i]).ownBlock=some k→(oV (dI p8 3 c8)).ownBlock≠some k):=af fun i hi k hk e=>by
      have h1:=((HM.out.each i hi).lt k hk).2;have h2:=(hO.lt k e).1;omega
     clear U3 hlen vS hO hb2 HM;rw [show ((3:Nat):Int)=3 from rfl];go_upto_region 19 with (at_builtin;(with_reducible refine eG adb (.tmp 66) (.tmp 68) ?_ ?_ bF ?_ HM3.out.own (dI p8 3 c8) _ ?_ _ ?_ ?_ ?_ ?_ (us++[dI p8 3 c8]) ?_ ?_);rfl;rfl;rfl;rfl;rfl;(rw [HUS.out];omega);(rw [HUS.out];omega);(exact hlo.2);rfl;(intro p3 c3 w3 hO4 hB4 hG4);(rw [MC.out] at hO4 ⊢);(have e9:=(hB4.cell (p:=⟨nb,1,none⟩) hlo.1).trans c1);(have f9:=(hB4.frozen (p:=⟨nb,1,none⟩) hlo.1).trans f1));have Iw:=HM3.out.cells (dI p8 3 c8) hO3 _ HD.out hO4 hG4;clear hO4 hB4 hG4 e9 f9 c1 f1 hO3 HM3 MC HUS;generalize (w3.setCell ⟨nb,1,none⟩ (.slice p3 (s+1) c3))=W5 at *;have F4:=Iw.mono ((au W5.heap.size W5).drew);obtain ⟨m,hm⟩:∃m:Nat,m=4+4 * s:=⟨_,rfl⟩
     have a5:4+4 * (s:Int)=(m:Int):=by omega
     have hmb:(m:Int)≤100:=by omega
     replace hm:=af hm;by_cases hin:m<l.length
     ·have hq3:(m:Int)<(l.length:Int):=by omega
      have hq4:¬(l.length:Int)≤(m:Int):=by omega
      obtain ⟨b,o,rfl,hcl⟩:=HI.out m hin;have hee:Hid (AJ l s=decide ((l[m]'hin).toNat % 4≠0)):=af (by unfold AJ;rw [← hm.out,aC hin,bM hin];rfl);have hyl:(l[m]'hin).toNat<256:=(l[m]'hin).toNat_lt;replace hcl:=af hcl;generalize (l[m]'hin).toNat=y at *;have z1:(y:Int).tmod 4=((y % 4:Nat):Int):=by rw [LG (by omega)];omega
      have z2:(y:Int) % 4=((y % 4:Nat):Int):=by omega
      generalize y % 4=z at *;replace hee:Hid (AJ l s=((z:Int) !=0)):=af (by rw [hee.out];by_cases h0:z=0<;>simp [h0]);refine aH (S:=fun X=>Below X2.heap.size X2 X∧Row oV X nb 37 [qz g 3 3,dI p3 (s+1) c3,dI pe s ke]) 20 rfl (by kernel_rfl) ⟨Iw.below.drew,Iw.row⟩ fun hS=> ?_;refine tk 0 71 (.pointer (some ⟨nb,2,none⟩)) hS ?_;refine tk 1 72 (.slice pe s ke) hS ?_ rfl (qi fun W' h=>by have q2:W'.cell? ⟨nb,2,none⟩=some (.slice pe s ke):=(by rw [h.2.cell?];rfl);go_simp);refine tk 2 73 (.int .i64 s) hS ?_;refine tk 3 74 (.int .i64 (4 * (s:Int))) hS ?_ rfl (yo fun w=>by go_simp<;>exact FE _ (by omega) (by omega));refine tk 4 75 (.int .i64 (m:Int)) hS ?_ rfl (yo fun w=>by go_simp<;>exact FE _ (by omega) (by omega));refine tk 5 76 (.slice (some ⟨b,o,none⟩) l.length c) hS ?_;refine tk 6 77 (.int .i64 (l.length:Int)) hS ?_ rfl (yo fun w=>by go_simp<;>exact FE _ (by omega) (by omega));refine tk 7 78 (.bool false) hS ?_ rfl (yo fun w=>by go_simp<;>exact FE _ (by omega) (by omega));refine tk 8 79 (.bool false) hS ?_;refine tk 9 80 (.slice (some ⟨b,o,none⟩) l.length c) hS ?_;refine tk 10 81 (.int .i64 s) hS ?_;refine tk 11 82 (.int .i64 (4 * (s:Int))) hS ?_ rfl (yo fun w=>by go_simp<;>exact FE _ (by omega) (by omega));refine tk 12 83 (.int .i64 (m:Int)) hS ?_ rfl (yo fun w=>by go_simp<;>exact FE _ (by omega) (by omega));refine tk 13 84 (.pointer (some ⟨b,o+m,none⟩)) hS ?_ rfl (yo fun w=>by go_simp<;>exact FE _ (by omega) (by omega));refine tk 14 85 (.int .u8 (y:Int)) hS ?_ rfl (qi fun W' h=>by have q2:=hcl.out W' h.1;go_simp);refine tk 15 86 (.int .u8 (z:Int)) hS ?_ rfl (yo fun w=>by go_simp<;>exact FE _ (by omega) (by omega));refine tk 16 87 (.bool ((z:Int) !=0)) hS ?_ rfl (yo fun w=>by go_simp<;>exact FE _ (by omega) (by omega));refine tk 17 88 (.bool ((z:Int) !=0)) hS ?_;refine iZ 18 (fun K' hK=> ?_);have hba:=ai (au W5.drew.heap.size W5.drew) (ah _) (.cells #[.bool ((z:Int) !=0)] 4);refine uC (d:=89) (v:= .slice (some ⟨W5.drew.heap.size,0,none⟩) 1 1) (w':=W5.drew.alloc (.cells #[.bool ((z:Int) !=0)] 4)) rfl rfl (by first | rfl | kernel_rfl | (simp [execOp,go_sem];done)) ?_;refine hK.out _ _ (And.intro (hS.1.trans (hba.mono hS.1.size)) (hS.2.below hba hS.2.lt)) fun _=> ?_;clear hK hba;simp only [sA,sB,sC];refine iZ 19 (fun K' hK=> ?_);refine jk (w:=W5.drew) (l:=jV l s) (v:= .slice pe s ke) acS (.tmp 72) (.tmp 89) 35 rfl rfl rfl QM rfl F4.ends ((z:Int) !=0) (.bool ((z:Int) !=0)) rfl 4 rfl (by rw [dW];omega) (by rw [dW];omega) F4.lo.2.2.2.2 (jV l (s+1)) (by rw [CV,hee.out]) ?_;intro p6 k6 w6 y8 dw _;rw [dW] at y8;have hF:=F4.flags _ y8 dw;refine hK.out _ _ (And.intro hF.1.2 hF.1.1) fun _=> ?_;clear hK hS;simp only [Act.put,dW,zZ,Cy,yh];refine aP (by kernel_rfl) ?_;simp only [List.drop];have f2:=hF.1.1.frozen 2;have g2:w6.cell? ⟨nb,2,none⟩=some (.slice pe s ke):=by rw [hF.1.1.cell?];rfl
      have HF:=af hF.2;clear hF y8 dw Iw F4;go_wp2_with fail
      go_roundw
      case rel=>exact ⟨s+1,p3,p6,c3,k6,us++[dI p8 3 c8],by omega,by go_num,HF⟩
      case measure=>simp [intOf]<;>omega
     ·have hq3:¬(m:Int)<(l.length:Int):=by omega
      have hq4:(l.length:Int)≤(m:Int):=by omega
      have hee:Hid (AJ l s=true):=af (by unfold AJ;rw [← hm.out,aF hin]);refine aH (S:=fun X=>Below X2.heap.size X2 X∧Row oV X nb 37 [qz g 3 3,dI p3 (s+1) c3,dI pe s ke]) 20 rfl (by kernel_rfl) ⟨Iw.below.drew,Iw.row⟩ fun hS=> ?_;refine tk 0 71 (.pointer (some ⟨nb,2,none⟩)) hS ?_;refine tk 1 72 (.slice pe s ke) hS ?_ rfl (qi fun W' h=>by have q2:W'.cell? ⟨nb,2,none⟩=some (.slice pe s ke):=(by rw [h.2.cell?];rfl);go_simp);refine tk 2 73 (.int .i64 s) hS ?_;refine tk 3 74 (.int .i64 (4 * (s:Int))) hS ?_ rfl (yo fun w=>by go_simp<;>exact FE _ (by omega) (by omega));refine tk 4 75 (.int .i64 (m:Int)) hS ?_ rfl (yo fun w=>by go_simp<;>exact FE _ (by omega) (by omega));refine tk 5 76 (.slice p l.length c) hS ?_;refine tk 6 77 (.int .i64 (l.length:Int)) hS ?_ rfl (yo fun w=>by go_simp<;>exact FE _ (by omega) (by omega));refine tk 7 78 (.bool true) hS ?_ rfl (yo fun w=>by go_simp<;>exact FE _ (by omega) (by omega));refine tk 8 79 (.bool true) hS ?_;refine vO 9 80 undef hS ?_;refine vO 10 81 undef hS ?_;refine vO 11 82 undef hS ?_;refine vO 12 83 undef hS ?_;refine vO 13 84 undef hS ?_;refine vO 14 85 undef hS ?_;refine vO 15 86 undef hS ?_;refine vO 16 87 undef hS ?_;refine tk 17 88 (.bool true) hS ?_;refine iZ 18 (fun K' hK=> ?_);have hba:=ai (au W5.drew.heap.size W5.drew) (ah _) (.cells #[.bool true] 4);refine uC (d:=89) (v:= .slice (some ⟨W5.drew.heap.size,0,none⟩) 1 1) (w':=W5.drew.alloc (.cells #[.bool true] 4)) rfl rfl (by first | rfl | kernel_rfl | (simp [execOp,go_sem];done)) ?_;refine hK.out _ _ (And.intro (hS.1.trans (hba.mono hS.1.size)) (hS.2.below hba hS.2.lt)) fun _=> ?_;clear hK hba;simp only [sA,sB,sC];refine iZ 19 (fun K' hK=> ?_);refine jk (w:=W5.drew) (l:=jV l s) (v:= .slice pe s ke) acS (.tmp 72) (.tmp 89) 35 rfl rfl rfl QM rfl F4.ends true (.bool true) rfl 4 rfl (by rw [dW];omega) (by rw [dW];omega) F4.lo.2.2.2.2 (jV l (s+1)) (by rw [CV,hee.out]) ?_;intro p6 k6 w6 y8 dw _;rw [dW] at y8;have hF:=F4.flags _ y8 dw;refine hK.out _ _ (And.intro hF.1.2 hF.1.1) fun _=> ?_;clear hK hS;simp only [Act.put,dW,zZ,Cy,yh];refine aP (by kernel_rfl) ?_;simp only [List.drop];have f2:=hF.1.1.frozen 2;have g2:w6.cell? ⟨nb,2,none⟩=some (.slice pe s ke):=by rw [hF.1.1.cell?];rfl
      have HF:=af hF.2;clear hF y8 dw Iw F4;go_wp2_with fail
      go_roundw
      case rel=>exact ⟨s+1,p3,p6,c3,k6,us++[dI p8 3 c8],by omega,by go_num,HF⟩
      case measure=>simp [intOf]<;>omega
  ·obtain rfl:s=sn:=by omega
   have hM:=HM.out;have hwB:w.heap.size<B:=by have:=hM.lo.1;have:=hM.lo.2.1;omega
   have hr0:=K6.out.below hM.below hlr;have dV:=HB0.out.trans (hM.below.mono (by omega));have hrow:=hM.row
   go_wp2_with (first
    | ((with_reducible refine zL hrow.at kz rfl (C:=#[.slice (some ⟨g,0,none⟩) 3 3, .slice pr s kr, .slice pe s ke]) ?_))
    | ((with_reducible refine zS (l':=[qz g 3 3,dI pr s kr,dI pe s ke]) hr0 kz ?_);(intro Y EP qp XR)))
   refine fJ (v:= .agg #[.slice (some ⟨g,0,none⟩) 3 3, .slice pr s kr, .slice pe s ke]) (aR (f:=oV) (l:=[qz g 3 3,dI pr s kr,dI pe s ke]) rfl _ kz w.heap.size 0 rfl EP.at) rfl ?_;rw [hsn];exact ⟨B,g,nb,pr,pe,kr,ke,us,X2,_,rfl,hM,dV,hr0,K6.out.lt,bO K6.out.lt HG.out,qp⟩
theorem Ue (W:World):jU ((W.alloc (.cells #[] 5)).alloc (.cells #[.slice (some ⟨W.heap.size,0,none⟩) 0 0] 22)) W.heap.size (.slice (some ⟨W.heap.size+1,0,none⟩) 1 1) [[]]:=by
 refine ⟨[dI (some ⟨W.heap.size,0,none⟩) 0 0],rfl,?_,fun i h h2=> ?_⟩
 ·have h:=Own.new (f:=oV) (l:=[dI (some ⟨W.heap.size,0,none⟩) 0 0]) (W.alloc (.cells #[] 5)) (.cells #[.slice (some ⟨W.heap.size,0,none⟩) 0 0] 22) (e:=22) W.heap.size (by simp) rfl (by unfold maxLen;simp);simpa using h
 ·have:i=0:=by simp at h;omega
  subst this;exact (Own.new (f:=aV) (l:=[]) W (.cells #[] 5) W.heap.size (ah _) rfl (by unfold maxLen;simp)).alloc _
theorem PZ (w:World) (pa:Option Addr) (ka:Nat) (al:List UInt8) (most:Nat) (hva:Rd aV w (.slice pa al.length ka) al) (ha:al.length≤4) (hm:most≤8) (hlen:(Sc.upTo al (most+1)).length≤4096):
  Calls Tryz.prog 11 #[.agg #[.slice pa al.length ka, .int .i64 most]] w fun e w'=>∃p c,e= .returned (.slice p (Sc.upTo al (most+1)).length c)∧jU w' w.heap.size (.slice p (Sc.upTo al (most+1)).length c) (Sc.upTo al (most+1))∧Below w.heap.size w w':=by
 have Lf:=af hva;clear hva;go_enter Tryz.func11,Tryz.ntmps11;go_upto_region 1 with (fail)
 obtain ⟨W,hW,hB,hs,g0⟩:∃W,(w.alloc (.cells #[.slice pa al.length ka, .int .i64 most] 30))=W∧Below w.heap.size w W∧w.heap.size+1≤W.heap.size∧W.heap[w.heap.size]?=some (.cells #[.slice pa al.length ka, .int .i64 most] 30 (0,0)):=
  ⟨_,rfl,ai (au _ _) (ah _) _,by simp,World.alloc_heap_new _ _⟩
 rw [hW];clear hW
 have SQ:Hid (∀X,Below W.heap.size W X→X.cell? ⟨w.heap.size,0,none⟩=some (.slice pa al.length ka)∧X.cell? ⟨w.heap.size,1,none⟩=some (.int .i64 most)∧Rd aV X (.slice pa al.length ka) al):=af fun X hX=>by
  have h:=(hX.block w.heap.size (by omega)).trans g0;refine ⟨?_,?_,(Lf.out.below hB).below hX⟩<;>(unfold World.cell?;rw [h];rfl)
 clear g0 Lf;have hL0:=Ue W;have hb0:Below W.heap.size W ((W.alloc (.cells #[] 5)).alloc (.cells #[.slice (some ⟨W.heap.size,0,none⟩) 0 0] 22)):=ai (ai (au _ _) (ah _) _) (ah _) _;replace hL0:=af hL0;replace hb0:=af hb0;go_upto_region 4 with (fail);generalize ((W.alloc (.cells #[] 5)).alloc (.cells #[.slice (some ⟨W.heap.size,0,none⟩) 0 0] 22))=W1 at *;replace hlen:=af hlen
 go_loopw [3,4,5] (fun s3 s4 s5 wr=>∃(n:Nat) (p:Option Addr) (c:Nat),n≤most∧s5= .int .i64 n∧s4= .int .i64 (Sc.upTo al n).length∧s3= .slice p (Sc.upTo al (n+1)).length c∧Hid (jU wr W.heap.size (.slice p (Sc.upTo al (n+1)).length c) (Sc.upTo al (n+1)))∧Below W.heap.size W wr) (fun _ _ i _=>most - (intOf i).toNat)
 case atStart=>exact ⟨0,_,_,by omega,rfl,rfl,rfl,hL0,hb0.out⟩
 case round=>
  clear hL0 hb0 W1;obtain ⟨n,p,c,hn,rfl,rfl,rfl,HL,hb⟩:=hrel;obtain ⟨q0,q1,q2⟩:=SQ.out _ hb;replace q2:=af q2;by_cases hlt:n<most
  ·have hq:(n:Int)<(most:Int):=by omega
   obtain ⟨U,V,fr,hU,hfr,hUl,hUV,vV,hUg,hVl⟩:=QC al most n hlt hm hlen.out;rw [← hU] at HL ⊢;rw [← hfr];have hU4:U.length≤4096:=by rw [fq] at vV;omega
   replace hUl:=af hUl;replace hU:=af hU;replace hfr:=af hfr;replace hUV:=af hUV;replace hUg:=af hUg;replace hVl:=af hVl;go_wp2_with fail;clear q0 q1 q2
   go_loopw [3,7] (fun s3 s7 wq=>∃(x d:Nat) (p:Option Addr) (c:Nat),x=fr+d∧d≤V.length∧s7= .int .i64 x∧s3= .slice p (U++Sc.bY al (V.take d)).length c∧Hid (jU wq W.heap.size (.slice p (U++Sc.bY al (V.take d)).length c) (U++Sc.bY al (V.take d)))∧Below W.heap.size W wq) (fun _ j _=>fr+V.length - (intOf j).toNat)
   case atStart=>
    have e0:U++Sc.bY al (V.take 0)=U:=by simp [Sc.bY]
    exact ⟨fr,0,p,c,by omega,by omega,rfl,by rw [e0],by rw [e0];exact HL,hb⟩
   case round=>
    clear HL hb;obtain ⟨x,d,p,c,hx,hd,rfl,rfl,HL,hb⟩:=hrel;by_cases hdl:d<V.length
    ·have hqx:(x:Int)<(U.length:Int):=by have:=hUl.out;omega
     obtain ⟨A,wd,hA,hwd,hAn,hAm,hAx,hAg⟩:=Ve al U V fr d hUl.out vV hUg.out hdl;have hwl:wd.length≤8:=by rw [hwd];exact hVl.out d hdl
     rw [← hA] at HL ⊢;rw [← hx] at hAx hAg;replace hx:=af hx;replace hA:=af hA;replace hwd:=af hwd;replace hAn:=af hAn;replace hAg:=af hAg;go_wp2_with fail
     go_loopw [3,8] (fun s3 s8 wr=>∃(k:Nat) (p:Option Addr) (c:Nat),k≤al.length∧s8= .int .i64 k∧s3= .slice p (A++(al.take k).map fun b=>wd++[b]).length c∧Hid (jU wr W.heap.size (.slice p (A++(al.take k).map fun b=>wd++[b]).length c) (A++(al.take k).map fun b=>wd++[b]))∧Below W.heap.size W wr) (fun _ j _=>al.length - (intOf j).toNat)
     case atStart=>
      have e0:(A++(al.take 0).map fun b=>wd++[b])=A:=by simp
      exact ⟨0,p,c,by omega,rfl,by rw [e0],by rw [e0];exact HL,hb⟩
     case round=>
      clear HL hb;obtain ⟨k,p,c,hk,rfl,rfl,HL,hb⟩:=hrel;obtain ⟨q0,q1,q2⟩:=SQ.out _ hb;by_cases hkl:k<al.length
      ·have hqk:(k:Int)<(al.length:Int):=by omega
       have hMT:=af (Sc.map_take al wd k hkl);have hml:((al.take k).map fun b=>wd++[b]).length=k:=by simp;omega
       have hAB:x<(A++(al.take k).map fun b=>wd++[b]).length:=by rw [fq];omega
       have hgx:=hAg.out _ hAB;obtain ⟨B,hB0⟩:∃B,B=(A++(al.take k).map fun b=>wd++[b]):=⟨_,rfl⟩
       have hBl:B.length≤4096:=by rw [hB0,fq,hml];omega
       have afE:x<B.length:=by rw [hB0];exact hAB
       have abD:B[x]=wd:=by simp only [hB0];exact hgx
       rw [← hB0] at HL ⊢;replace abD:=af abD;replace hB0:=af hB0;clear hgx hAB hml;obtain ⟨bl,qw,mw,cw,rfl,cc,hmw,DW⟩:=HL.out.elem x afE;rw [abD.out] at hmw DW;subst hmw
       obtain ⟨bv,ov,rfl,Yt⟩:∃b o,pa=some ⟨b,o,none⟩∧∀X,Below W.heap.size W X→X.cell? ⟨b,o+k,none⟩=some (.int .u8 (al[k].toNat:Int)):=by
        rcases q2 with ⟨_,_,h0⟩ | ⟨b,o,cap,h1,_,ha,_⟩
        ·rw [h0] at hkl;simp at hkl
        ·cases h1;refine ⟨b,o,rfl,fun X hX=> ?_⟩;rcases (SQ.out _ hX).2.2 with ⟨_,_,h0⟩ | ⟨b,o,cap,h1,_,ha,_⟩
         ·rw [h0] at hkl;simp at hkl
         ·cases h1;exact (ha k hkl).trans (by rw [bM hkl];rfl)
       replace Yt:=af Yt;clear q2;have vz:Mem.Own aV (wr.alloc (.cells #[] 5)) wr.heap.size 5 (.slice (some ⟨wr.heap.size,0,none⟩) 0 0) ([]:List UInt8):=Own.new wr _ wr.heap.size (ah _) rfl (by simp);have hba:=ai (au wr.heap.size wr) (ah _) (.cells #[] 5);have nI:=DW.rd.below hba
       have cca:(wr.alloc (.cells #[] 5)).cell? ⟨bl,x,none⟩=some (.slice qw wd.length cw):=by
        have hbl:=(HL.out.row bl rfl).2;rw [hba.cell (p:=⟨bl,x,none⟩) hbl];exact cc
       have hbs:=hb.size;clear DW;go_upto_region 14 with (at_builtin;(with_reducible refine Ju xV (.tmp 33) (.tmp 37) ?_ ?_ j4 ?_ vz wd _ ?_ nI ?_ ?_ ?_ wd ?_ ?_);rfl;rfl;rfl;rfl;(simp;omega);(simp;omega);(simp);rfl;intro p1 c1 W1 mE hB1 hG1);have VW:Below wr.heap.size wr W1:=hba.trans hB1;clear cc cca nI vz hB1 hG1 hba q0 q1;obtain ⟨q0,q1,_⟩:=SQ.out _ (hb.trans (VW.mono hbs));have qa:=Yt.out _ (hb.trans (VW.mono hbs));have aeP:=VW.size;go_upto_region 15 with (at_builtin;(with_reducible refine eG xV (.tmp 39) (.tmp 45) ?_ ?_ j4 ?_ mE al[k] _ ?_ _ ?_ ?_ ?_ ?_ (wd++[al[k]]) ?_ ?_);rfl;rfl;rfl;rfl;rfl;(omega);(omega);(exact aeP);rfl;(intro p2 c2 W2 hO2 hB2 hG2));have yw:(wd++[al[k]]).length=wd.length+1:=by simp
       rw [yw] at hO2
       try rw [yw]
       clear yw;have hB2':Below wr.heap.size wr W2:=VW.trans hB2;obtain ⟨vals,hv1,hv2,hv3⟩:=HL.out;have HV:=af hv3;have Me:=hv2.below' hB2';rw [← hv1] at Me ⊢;have hvl:vals.length≤4096:=by omega
       replace hv1:=af hv1;clear hv2 hv3 q0 q1 qa mE hB2 hG2 aeP;have ahu:=hB2'.size;go_wp2_with (at_builtin;(with_reducible refine eG aa3 (.tmp 47) (.tmp 49) ?_ ?_ bF ?_ Me (dI p2 (wd.length+1) c2) _ ?_ _ ?_ ?_ ?_ ?_ (vals++[dI p2 (wd.length+1) c2]) ?_ ?_);rfl;rfl;rfl;rfl;rfl;(omega);(omega);(omega);rfl;(intro p3 c3 W3 hO3 hB3 hG3))
       go_roundw
       case rel=>
        have SB:=Me.alloc (.cells #[.slice p2 (wd.length+1) c2] 22);have hnew:Mem.Own aV W3 W.heap.size 5 (.slice p2 (wd.length+1) c2) (wd++[al[k]]):=((hO2.mono hbs).alloc _).dK hG3 (mK (hO2.alloc _) SB (by decide))
        have hold:∀a (h:a<vals.length) (h2:a<B.length),Mem.Own aV W3 W.heap.size 5 (oV vals[a]) B[a]:=fun a h h2=>
         (((HV.out a h h2).below' hB2').alloc _).dK hG3 (mK (((HV.out a h h2).below' hB2').alloc _) SB (by decide))
        have hsn:=jU.snoc (x:=dI p2 (wd.length+1) c2) hv1.out hold hnew hO3;have he:B++[wd++[al[k]]]=(A++(al.take (k+1)).map fun b=>wd++[b]):=by rw [hB0.out,hMT.out,ze]
        have hl3:(vals++[dI p2 (wd.length+1) c2]).length=(B++[wd++[al[k]]]).length:=by rw [fq,fq,hv1.out];rfl
        have hl4:vals.length+1=(A++(al.take (k+1)).map fun b=>wd++[b]).length:=by rw [← he,← hl3];simp
        rw [hl3,he] at hsn;exact ⟨k+1,p3,c3,by omega,by go_num,by rw [hl4],af hsn,(hb.trans (hB2'.mono hbs)).trans (hB3.mono (ah _))⟩
       case measure=>simp [intOf]<;>omega
      ·obtain rfl:k=al.length:=by omega
       have hqk:¬(al.length:Int)<(al.length:Int):=by omega
       rw [qj (ah _),hAn.out] at HL ⊢;go_wp2_with fail
       go_roundw
       case rel=>exact ⟨x+1,d+1,p,c,by have:=hx.out;omega,by omega,by go_num,rfl,HL,hb⟩
       case measure=>
        have:=hx.out;simp [intOf]<;>omega
    ·obtain rfl:d=V.length:=by omega
     have hqx:¬(x:Int)<(U.length:Int):=by have:=hUl.out;omega
     replace hx:=af hx;rw [qj (ah _),hUV.out] at HL ⊢;have hUe:=hU.out;replace hUe:=af hUe;go_wp2_with fail
     go_roundw
     case rel=>exact ⟨n+1,p,c,by omega,by go_num,by rw [hUe.out],rfl,HL,hb⟩
     case measure=>simp [intOf]<;>omega
  ·have he:n=most:=by omega
   subst he;have hq:¬(n:Int)<(n:Int):=by omega
   go_wp2_with fail;go_ret;exact ⟨p,c,rfl,HL.out.mono hB.size,hB.trans (hb.mono hB.size)⟩
end
end Go.Proofs.YtncnfncglacheaaGreatDoor
