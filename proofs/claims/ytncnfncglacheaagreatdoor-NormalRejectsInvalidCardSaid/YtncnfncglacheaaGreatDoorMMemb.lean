/- Bytes as a string; bytes.Equal; records alike. -/
import Derived.RangeFuncNested
import Derived.RangeFuncBound
import Derived.RangeFuncCalls
import Derived.RangeFuncLeaves
import Derived.TacticsInMore
import Derived.LoopNIn
import Derived.LoopIn
import Derived.BigFrameIn
import Derived.WalkSmall
import Derived.Lib.TrailingZeros
import Derived.Laws.Bits64b
import Derived.Test.YtncnfncglacheaaGreatDoorMRangeQ
import Derived.Test.YtncnfncglacheaaGreatDoorMClass
import Derived.Test.YtncnfncglacheaaGreatDoorMCells
import Derived.Laws.IdiomStrings
import Derived.Lib.BufferRead
import Derived.Test.YtncnfncglacheaaGreatDoorMKeyS
namespace Go.Proofs.YtncnfncglacheaaGreatDoor
open Go Go.RowKit Mem
attribute [local go_sem] Oper.semAt_some
set_option maxRecDepth 100000
def Tab (w:World):Prop:=∀j,j<64→w.cell? ⟨1,j,none⟩=some (.int .u8 (Lib.deBruijn64tab.getD j 0:Nat))
theorem Tab.lt {w:World} (h:Tab w):1<w.heap.size:=by
 have h0:=h 0 (by omega)
 rcases Nat.lt_or_ge 1 w.heap.size with h1 | h1
 ·exact h1
 ·unfold World.cell? at h0
  rw [Array.getElem?_eq_none (by exact h1)] at h0
  cases h0
theorem Tab.below {w w':World} {B:Nat} (h:Tab w) (hb:Below B w w') (hB:1<B):Tab w':=fun j hj=>(World.cell?_of_block (a:=⟨1,j,none⟩) (hb.block _ hB)).trans (h j hj)
theorem Tab.block {w w':World} (h:Tab w) (hb:w'.heap[1]?=w.heap[1]?):Tab w':=fun j hj=>(World.cell?_of_block (a:=⟨1,j,none⟩) hb).trans (h j hj)
theorem tz_key (x a:Nat) (hx:x<18446744073709551616) (hx0:x≠0) (hlow:x &&& (18446744073709551616 - x)=a):
  IntKind.u64.wrap (bits BinOp.and IntKind.u64 (x:Int) (IntKind.u64.wrap (-(x:Int))) * 285870213051353865) / 288230376151711744=((a * 285870213051353865 % 18446744073709551616 / 288230376151711744:Nat):Int):=by
 have e1:IntKind.u64.wrap (-(x:Int))=((18446744073709551616 - x:Nat):Int):=by rw [IntKind.wrap_u64];omega
 rw [e1,u64_and_nat x _ hx (by omega),hlow,IntKind.wrap_u64]
 omega
set_option maxHeartbeats 1000000 in
theorem tz_core (x k idx:Nat) (w:World) (hx0:((x:Int)==0)=false)
  (key:IntKind.u64.wrap (bits BinOp.and IntKind.u64 (x:Int) (IntKind.u64.wrap (-(x:Int))) * 285870213051353865) / 288230376151711744=(idx:Int))
  (hi:idx<64) (hk:k<64) (hcell:w.cell? ⟨1,idx,none⟩=some (.int .u8 k)):
  Calls Tryz.prog 173 #[.int .u64 x] w fun e w'=>e= .returned (.int .i64 k)∧w'=w:=by
 go_enter Tryz.func173,Tryz.ntmps173
 go_wp2_with (simp only [key])
 go_ret
 exact ⟨rfl,rfl⟩
theorem tz64 (w:World) (hT:Tab w) (x:UInt64) (h0:x≠0):Calls Tryz.prog 173 #[.int .u64 (X x)] w fun e w'=>e= .returned (.int .i64 (Lib.ctz 64 x.toNat:Nat))∧w'=w:=by
 have hx:=u64_lt x
 have hn:x.toNat≠0:=fun e=>h0 (UInt64.toNat_inj.1 (by rw [e];rfl))
 obtain ⟨hlow,hk⟩:=Lib.lowest_bit 64 x.toNat hn hx
 obtain ⟨hi,htab⟩:=Lib.deBruijn64_at _ hk
 have hc:=hT _ hi
 rw [htab] at hc
 exact tz_core x.toNat _ _ w (by rw [beq_eq_false_iff_ne];omega) (tz_key x.toNat _ hx hn hlow) hi hk hc
def memN (c:Cl) (n:Nat):List Nat:=(List.range n).filter c.mem
theorem memN_succ (c:Cl) (n:Nat):memN c (n+1)=memN c n++(if c.mem n=true then [n] else []):=by
 unfold memN
 rw [List.range_succ,List.filter_append]
 congr 1
 by_cases h:c.mem n=true<;>simp [h]
theorem memN_gap (c:Cl) (n:Nat):∀k,(∀j,n≤j→j<n+k→c.mem j=false)→memN c (n+k)=memN c n
 | 0,_=>rfl
 | k+1,h=>by
  rw [← Nat.add_assoc,memN_succ,memN_gap c n k fun j h1 h2=>h j h1 (by omega),h (n+k) (by omega) (by omega)]
  simp
theorem memN_prefix (c:Cl) (n:Nat):∀k,memN c n<+:memN c (n+k)
 | 0=>List.prefix_rfl
 | k+1=>by
  rw [← Nat.add_assoc,memN_succ]
  exact List.IsPrefix.trans (memN_prefix c n k) (List.prefix_append _ _)
theorem memN_lt (c:Cl) (n:Nat):∀b∈memN c n,b<n:=fun b hb=>List.mem_range.1 (List.mem_filter.1 hb).1
theorem memN_len (c:Cl) (n:Nat):(memN c n).length≤n:=Nat.le_trans (List.length_filter_le _ _) (by simp)
def Left (c:Cl) (q lim:Nat) (x:UInt64):Prop:=∀j,j<64→x.toNat.testBit j=(decide (lim≤j) && (c.w q).toNat.testBit j)
theorem left_start (c:Cl) (q:Nat):Left c q 0 (c.w q):=fun j _=>by simp
theorem left_end {c:Cl} {q lim:Nat} {x:UInt64} (h:Left c q lim x) (h0:x=0) (hl:lim≤64):memN c (64 * q+lim)=memN c (64 * (q+1)):=by
 subst h0
 rw [show 64 * (q+1)=64 * q+lim+(64 - lim) by omega]
 refine (memN_gap c _ _ fun j h1 h2=> ?_).symm
 obtain ⟨i,rfl⟩:∃i,j=64 * q+i:=⟨j - 64 * q,by omega⟩
 rw [Cl.mem_at c q i (by omega)]
 have:=h i (by omega)
 rw [decide_eq_true (by omega)] at this
 simpa using this.symm
theorem ctz_bits (x:UInt64) (h0:x≠0):Lib.ctz 64 x.toNat<64∧x.toNat.testBit (Lib.ctz 64 x.toNat)=true∧(∀j,j<Lib.ctz 64 x.toNat→x.toNat.testBit j=false)∧
  ∀j,(x &&& (x - 1)).toNat.testBit j=(decide (Lib.ctz 64 x.toNat<j) && x.toNat.testBit j):=by
 have hx:=u64_lt x
 have hn:x.toNat≠0:=fun e=>h0 (UInt64.toNat_inj.1 (by rw [e];rfl))
 obtain ⟨m,hm,hk⟩:=Lib.ctzFrom_spec 64 x.toNat (by omega) hx
 have hc:Lib.ctz 64 x.toNat=Lib.ctzFrom 64 x.toNat:=by unfold Lib.ctz;rw [if_neg hn]
 rw [hc]
 generalize Lib.ctzFrom 64 x.toNat=k at *
 have h1:∀j,x.toNat.testBit j=(decide (k≤j) && (2 * m+1).testBit (j - k)):=fun j=>by
  rw [hm,show 2 ^ k * (2 * m+1)=2 ^ k * (2 * m+1)+0 by omega,Nat.testBit_two_pow_mul_add _ (Nat.two_pow_pos k)]
  by_cases hj:j<k
  ·rw [if_pos hj,decide_eq_false (by omega)];simp
  ·rw [if_neg hj,decide_eq_true (by omega)];simp
 have hsub:(x - 1).toNat=x.toNat - 1:=by
  rw [UInt64.toNat_sub_of_le _ _ (by rw [UInt64.le_iff_toNat_le];show 1≤x.toNat;omega)];rfl
 have hpow:1≤2 ^ k:=Nat.two_pow_pos k
 have h2:∀j,(x - 1).toNat.testBit j=if j<k+1 then decide (j<k) else m.testBit (j - (k+1)):=fun j=>by
  rw [hsub,hm,show 2 ^ k * (2 * m+1) - 1=2 ^ (k+1) * m+(2 ^ k - 1) by rw [Nat.pow_succ,Nat.mul_add,Nat.mul_one,Nat.mul_assoc];omega,
   Nat.testBit_two_pow_mul_add _ (by rw [Nat.pow_succ];omega),Nat.testBit_two_pow_sub_one]
 refine ⟨hk,by rw [h1];simp,fun j hj=>by rw [h1,decide_eq_false (by omega)];rfl,fun j=> ?_⟩
 rw [UInt64.toNat_and,Nat.testBit_and,h1,h2]
 by_cases hj:j<k
 ·rw [decide_eq_false (by omega),decide_eq_false (show ¬k<j by omega)];simp
 ·by_cases hj2:j=k
  ·subst hj2;simp
  ·rw [if_neg (by omega),decide_eq_true (by omega),decide_eq_true (by omega)]
   rw [show j - k=(j - (k+1))+1 by omega,Nat.testBit_succ,show (2 * m+1) / 2=m by omega]
   simp
theorem left_step {c:Cl} {q lim:Nat} {x:UInt64} (h:Left c q lim x) (h0:x≠0) (hl:lim≤64):
  lim≤Lib.ctz 64 x.toNat∧Left c q (Lib.ctz 64 x.toNat+1) (x &&& (x - 1))∧memN c (64 * q+(Lib.ctz 64 x.toNat+1))=memN c (64 * q+lim)++[64 * q+Lib.ctz 64 x.toNat]:=by
 obtain ⟨hk,hb,hz,hs⟩:=ctz_bits x h0
 generalize Lib.ctz 64 x.toNat=k at *
 have hlk:lim≤k:=by
  have:=h k hk
  rw [hb] at this
  by_cases hlk:lim≤k
  ·exact hlk
  ·rw [decide_eq_false hlk] at this;simp at this
 have hbk:(c.w q).toNat.testBit k=true:=by
  have:=h k hk
  rw [hb,decide_eq_true hlk] at this
  simpa using this.symm
 refine ⟨hlk,fun j hj=> ?_,?_⟩
 ·rw [hs,h j hj]
  by_cases h1:k<j
  ·rw [decide_eq_true h1,decide_eq_true (show lim≤j by omega),decide_eq_true (show k+1≤j by omega)];simp
  ·rw [decide_eq_false h1,decide_eq_false (show ¬k+1≤j by omega)];simp
 ·rw [← Nat.add_assoc,memN_succ,Cl.mem_at c q k hk,hbk,if_pos rfl]
  congr 1
  rw [show 64 * q+k=64 * q+lim+(k - lim) by omega]
  refine memN_gap c _ _ fun j h1 h2=> ?_
  obtain ⟨i,rfl⟩:∃i,j=64 * q+i:=⟨j - 64 * q,by omega⟩
  rw [Cl.mem_at c q i (by omega)]
  have h3:=h i (by omega)
  rw [hz i (by omega),decide_eq_true (by omega)] at h3
  simpa using h3.symm
theorem X_sub1 (x:UInt64) (h0:x≠0):X x - 1=X (x - 1):=by
 unfold X
 have hn:x.toNat≠0:=fun e=>h0 (UInt64.toNat_inj.1 (by rw [e];rfl))
 rw [UInt64.toNat_sub_of_le _ _ (by rw [UInt64.le_iff_toNat_le];show 1≤x.toNat;omega)]
 show (x.toNat:Int) - 1=((x.toNat - 1:Nat):Int)
 omega
def KeepB (K:Nat) (W W':World):Prop:=W.heap.size≤W'.heap.size∧∀r,r<K→W'.heap[r]?=W.heap[r]?
theorem keepB_t {K:Nat} {A B C:World} (h:KeepB K A B) (k:KeepB K B C):KeepB K A C:=⟨Nat.le_trans h.1 k.1,fun r hr=>(k.2 r hr).trans (h.2 r hr)⟩
set_option maxHeartbeats 8000000 in
theorem membSeq (n:Nat) (hn:1≤n) (K:Nat) (c:Cl) (cb:Nat) (w:World) (hT:Tab w) (hc:Row oV w cb 65 (clL c)) (h1:1<K) (h2:cb<K) (hK:K≤w.heap.size):
  SeqQ Fence.wide n Tryz.prog 172 #[.pointer (some ⟨cb,0,none⟩)] (fun x:Nat=> #[.int .u8 (x:Int)]) (fun pre x _=>x<256∧pre++[x]<+:memN c 256) (KeepB K) (fun xs=>xs=memN c 256) (fun pre=>pre<+:memN c 256∧pre≠[]) w:=by
 intro l J Jx W hW hJ hJx hY h0'
 have HTW:Hid (∀X,KeepB K W X→Tab X):=Lib.hid fun X hX=>(hT.below hW hT.lt).block (hX.2 _ h1)
 have hcW:Row oV W cb 65 (clL c):=hc.below hW (by omega)
 have hKW:K≤W.heap.size:=Nat.le_trans hK hW.size
 have HY:=Lib.hid hY
 have HJ:=Lib.hid hJ
 clear hY hJ hJx hT hc hW
 have hix:∀q:Nat,q<4→∀w:World,(Instr.index 65 (.agg (clA c)) (.int .i64 (q:Int))).run Tryz.prog w= .ok (.int .u64 (X (c.w q))) w:=by
  intro q hq w
  rcases (by omega:q=0∨q=1∨q=2∨q=3) with rfl | rfl | rfl | rfl<;>kernel_rfl
 have HIX:=Lib.hid hix
 clear hix
 refine callsIn_of_wp Tryz.func172 rfl trivial ?_ rfl
 simp only [Tryz.ntmps172,List.size_toArray,List.length_cons,List.length_nil,Nat.reduceAdd,Nat.reduceSub,Array.replicate_succ,Array.replicate_zero,List.push_toArray,List.append_toArray,List.nil_append,List.cons_append]
 have y0:W.cell? ⟨cb,0,none⟩=some (.int .u64 (X c.a)):=by rw [hcW.cell?];rfl
 have y1:W.cell? ⟨cb,1,none⟩=some (.int .u64 (X c.b)):=by rw [hcW.cell?];rfl
 have y2:W.cell? ⟨cb,2,none⟩=some (.int .u64 (X c.c)):=by rw [hcW.cell?];rfl
 have y3:W.cell? ⟨cb,3,none⟩=some (.int .u64 (X c.d)):=by rw [hcW.cell?];rfl
 gi_wp2_with fail
 gi_loopw [3,4,6] (fun _ _ i wr=>∃q:Nat,q≤4∧i= .int .i64 q∧J (memN c (64 * q)) wr∧KeepB K W wr) (fun _ _ i _=>4 - (intOf i).toNat)
 case atStart=>exact ⟨0,by omega,rfl,h0',Nat.le_refl _,fun _ _=>rfl⟩
 case round=>
  clear hcW h0' y0 y1 y2 y3
  obtain ⟨q,hq,rfl,hJ1,hk1⟩:=hrel
  by_cases hlt:q<4
  ·have hqi:(q:Int)<4:=by omega
   have ix:=HIX.out q hlt
   have hKr:K≤wr.heap.size:=Nat.le_trans hKW hk1.1
   gi_wp2_with fail
   gi_loopw [4] (fun s4 wq=>∃(lim:Nat) (x:UInt64),s4= .int .u64 (X x)∧lim≤64∧Hid (Left c q lim x)∧J (memN c (64 * q+lim)) wq∧KeepB K W wq) (fun s4 _=>(intOf s4).toNat)
   case atStart=>exact ⟨0,c.w q,rfl,by omega,Lib.hid (left_start c q),hJ1,hk1⟩
   case round=>
    clear hJ1 hk1 ix
    obtain ⟨lim,x,rfl,hlim,HL,hJ2,hk2⟩:=hrel
    by_cases hx:x=0
    ·have hz:(X x !=0)=false:=by rw [hx];rfl
     have HE:Hid (J (memN c (64 * (q+1))) wr):=Lib.hid (by rw [← left_end HL.out hx hlim];exact hJ2)
     clear hJ2
     gi_wp2
     go_roundw
     case rel=>exact ⟨q+1,by omega,by go_num,HE.out,hk2⟩
     case measure=>simp [intOf];omega
    ·have hz:(X x !=0)=true:=by
      rw [bne_iff_ne];intro h;exact hx (X_inj (y:=0) h)
     obtain ⟨hk,_,_,_⟩:=ctz_bits x hx
     obtain ⟨hlk,hL2,hm⟩:=left_step HL.out hx hlim
     have HTZ:=Lib.hid (tz64 wr (HTW.out _ hk2) x hx)
     have h1x:1≤X x:=by have:=X_nonneg x;have:X x≠0:=fun h=>hx (X_inj (y:=0) h);omega
     have h2x:=X_lt x
     have hsub:=X_sub1 x hx
     have hand:=X_and x (x - 1)
     have hlt2:X (x &&& (x - 1))<X x:=by
      have h:=Nat.and_le_right (n:=x.toNat) (m:=(x - 1).toNat)
      rw [← UInt64.toNat_and] at h
      have:X (x &&& (x - 1))≤X (x - 1):=by unfold X;omega
      omega
     generalize Lib.ctz 64 x.toNat=k at *
     have hG:64 * q+k<256∧memN c (64 * q+lim)++[64 * q+k]<+:memN c 256:=⟨by omega,by
      rw [← hm,show 256=64 * q+(k+1)+(256 - (64 * q+(k+1))) by omega];exact memN_prefix c _ _⟩
     have HG:=Lib.hid hG.2
     have HM:=Lib.hid hm
     have HL2:=Lib.hid hL2
     obtain ⟨fn,tmps,assign,body,hy,hR⟩:=HY.out (memN c (64 * q+lim)) (64 * q+k) wr hJ2 hG
     rw [show ((64 * q+k:Nat):Int)=64 * (q:Int)+(k:Int) by omega] at hy
     clear hG hm hL2 hJ2
     gi_wp2_with fail
     refine ⟨trivial,?_⟩
     refine (callsIn_wide.2 HTZ.out).mono ?_
     rintro e w1 ⟨rfl,rfl⟩
     clear HTZ
     gi_wp2
     refine hR.mono ?_
     rintro e W2 (⟨rfl,hJ2,hk3⟩ | ⟨rfl,hJx2⟩)
     ·have hJ3:J (memN c (64 * q+(k+1))) W2:=by rw [HM.out];exact hJ2
      have hk4:=keepB_t hk2 hk3
      clear hy hR hJ2 hk3
      gi_wp2
      go_roundw
      case rel=>exact ⟨k+1,x &&& (x - 1),rfl,by omega,HL2,hJ3,hk4⟩
      case measure=>simp [intOf];omega
     ·gi_wp2
      refine bodyPost_ret (v:= .tuple #[]) (by simp [results,Tryz.results172,go_sem]) rfl ?_
      exact ⟨⟨_,rfl⟩, .inr ⟨_,⟨HG.out,by simp⟩,hJx2⟩⟩
  ·obtain rfl:q=4:=by omega
   gi_wp2
   go_end0
   exact ⟨⟨_,rfl⟩, .inl ⟨_,rfl,hJ1⟩⟩
end Go.Proofs.YtncnfncglacheaaGreatDoor
namespace Go.Proofs.YtncnfncglacheaaGreatDoor
open Go Go.RowKit Mem
set_option maxRecDepth 100000
namespace Mem
variable {P:Program} {ops:Array Oper} {rest:List Oper} {o:Oper} {a:Act} {Q:Exit→Act→World→Prop} {w:World}
end Mem
end Go.Proofs.YtncnfncglacheaaGreatDoor
