/- Part of a proof. -/
import Derived.RangeFuncBound
import Derived.RangeFuncCalls
import Derived.TacticsInMore
import Derived.LoopNIn
import Derived.LoopIn
import Derived.BigFrameIn
import Derived.Lib.TrailingZeros
import Derived.Laws.Bits64b
import Derived.Test.YtncnfncglacheaaGreatDoorFNWrite
set_option linter.all false
set_option maxRecDepth 100000
set_option maxHeartbeats 64000000
namespace Go.Proofs.YtncnfncglacheaaGreatDoor
section
open Go Go.RowKit Mem
attribute [local go_sem] XO
def iw (w:World):Prop:=∀j,j<64→w.cell? ⟨1,j,none⟩=some (.int .u8 (Lib.deBruijn64tab.getD j 0:Nat))
theorem iw.lt {w:World} (h:iw w):1<w.heap.size:=by
 have h0:=h 0 (by omega);rcases Ik 1 w.heap.size with h1 | h1
 ·exact h1
 ·unfold World.cell? at h0;rw [qdm (by exact h1)] at h0;cases h0
theorem iw.below {w w':World} {B:Nat} (h:iw w) (hb:Below B w w') (hB:1<B):iw w':=fun j hj=>(nU (a:=⟨1,j,none⟩) (hb.block _ hB)).trans (h j hj)
theorem iw.block {w w':World} (h:iw w) (hb:w'.heap[1]?=w.heap[1]?):iw w':=fun j hj=>(nU (a:=⟨1,j,none⟩) hb).trans (h j hj)
theorem adx (x a:Nat) (hx:x<18446744073709551616) (hx0:x≠0) (hlow:x &&& (18446744073709551616 - x)=a):
  IntKind.u64.wrap (bits BinOp.and IntKind.u64 (x:Int) (IntKind.u64.wrap (-(x:Int))) * 285870213051353865) / 288230376151711744=((a * 285870213051353865 % 18446744073709551616 / 288230376151711744:Nat):Int):=by
 have e1:IntKind.u64.wrap (-(x:Int))=((18446744073709551616 - x:Nat):Int):=by rw [qcQ];omega
 rw [e1,u64_and_nat x _ hx (by omega),hlow,qcQ];omega
theorem aao (x k idx:Nat) (w:World) (hx0:((x:Int)==0)=false)
  (key:IntKind.u64.wrap (bits BinOp.and IntKind.u64 (x:Int) (IntKind.u64.wrap (-(x:Int))) * 285870213051353865) / 288230376151711744=(idx:Int))
  (hi:idx<64) (hk:k<64) (hcell:w.cell? ⟨1,idx,none⟩=some (.int .u8 k)):
  Calls Tryz.prog 173 #[.int .u64 x] w fun e w'=>e= .returned (.int .i64 k)∧w'=w:=by
 go_enter Tryz.func173,Tryz.ntmps173;go_wp2_with (simp only [key]);go_ret;exact ⟨rfl,rfl⟩
theorem agf (w:World) (hT:iw w) (x:UInt64) (h0:x≠0):Calls Tryz.prog 173 #[.int .u64 (X x)] w fun e w'=>e= .returned (.int .i64 (Lib.ctz 64 x.toNat:Nat))∧w'=w:=by
 have hx:=lX x;have hn:x.toNat≠0:=fun e=>h0 (Ub.1 (by rw [e];rfl));obtain ⟨hlow,hk⟩:=Lib.lowest_bit 64 x.toNat hn hx;obtain ⟨hi,htab⟩:=Lib.deBruijn64_at _ hk;have hc:=hT _ hi;rw [htab] at hc;exact aao x.toNat _ _ w (by rw [qcW];omega) (adx x.toNat _ hx hn hlow) hi hk hc
def jq (c:Cl) (n:Nat):List Nat:=(List.range n).filter c.mem
theorem Av (c:Cl) (n:Nat):jq c (n+1)=jq c n++(if c.mem n=true then [n] else []):=by
 unfold jq;rw [K7,List.filter_append];congr 1;by_cases h:c.mem n=true<;>simp [h]
theorem Ew (c:Cl) (n:Nat):∀k,(∀j,n≤j→j<n+k→c.mem j=false)→jq c (n+k)=jq c n
 | 0,_=>rfl
 | k+1,h=>by
  rw [← yN,Av,Ew c n k fun j h1 h2=>h j h1 (by omega),h (n+k) (by omega) (by omega)];simp
theorem De (c:Cl) (n:Nat):∀k,jq c n<+:jq c (n+k)
 | 0=>List.prefix_rfl
 | k+1=>by
  rw [← yN,Av];exact List.IsPrefix.trans (De c n k) (List.prefix_append _ _)
theorem acr (c:Cl) (n:Nat):∀b∈jq c n,b<n:=fun b hb=>Ij.1 (qda.1 hb).1
theorem MZ (c:Cl) (n:Nat):(jq c n).length≤n:=aL (List.length_filter_le _ _) (by simp)
def Left (c:Cl) (q lim:Nat) (x:UInt64):Prop:=∀j,j<64→x.toNat.testBit j=(decide (lim≤j) && (c.w q).toNat.testBit j)
theorem RN (c:Cl) (q:Nat):Left c q 0 (c.w q):=fun j _=>by simp
theorem ZN {c:Cl} {q lim:Nat} {x:UInt64} (h:Left c q lim x) (h0:x=0) (hl:lim≤64):jq c (64 * q+lim)=jq c (64 * (q+1)):=by
 subst h0;rw [show 64 * (q+1)=64 * q+lim+(64 - lim) by omega];refine (Ew c _ _ fun j h1 h2=> ?_).symm;obtain ⟨i,rfl⟩:∃i,j=64 * q+i:=⟨j - 64 * q,by omega⟩
 rw [Cl.zm c q i (by omega)];have:=h i (by omega);rw [nE (by omega)] at this;simpa using this.symm
theorem Nw (x:UInt64) (h0:x≠0):Lib.ctz 64 x.toNat<64∧x.toNat.testBit (Lib.ctz 64 x.toNat)=true∧(∀j,j<Lib.ctz 64 x.toNat→x.toNat.testBit j=false)∧
  ∀j,(x &&& (x - 1)).toNat.testBit j=(decide (Lib.ctz 64 x.toNat<j) && x.toNat.testBit j):=by
 have hx:=lX x;have hn:x.toNat≠0:=fun e=>h0 (Ub.1 (by rw [e];rfl));obtain ⟨m,hm,hk⟩:=Lib.ctzFrom_spec 64 x.toNat (by omega) hx;have hc:Lib.ctz 64 x.toNat=Lib.ctzFrom 64 x.toNat:=by unfold Lib.ctz;rw [aF hn]
 rw [hc];generalize Lib.ctzFrom 64 x.toNat=k at *
 have h1:∀j,x.toNat.testBit j=(decide (k≤j) && (2 * m+1).testBit (j - k)):=fun j=>by
  rw [hm,show 2 ^ k * (2 * m+1)=2 ^ k * (2 * m+1)+0 by omega,Nat.testBit_two_pow_mul_add _ (Nat.two_pow_pos k)];by_cases hj:j<k
  ·rw [aC hj,jI (by omega)];simp
  ·rw [aF hj,nE (by omega)];simp
 have hsub:(x - 1).toNat=x.toNat - 1:=by
  rw [UInt64.toNat_sub_of_le _ _ (by rw [UInt64.le_iff_toNat_le];show 1≤x.toNat;omega)];rfl
 have Qt:1≤2 ^ k:=Nat.two_pow_pos k
 have h2:∀j,(x - 1).toNat.testBit j=if j<k+1 then decide (j<k) else m.testBit (j - (k+1)):=fun j=>by
  rw [hsub,hm,show 2 ^ k * (2 * m+1) - 1=2 ^ (k+1) * m+(2 ^ k - 1) by rw [Nat.pow_succ,Nat.mul_add,PE,Nat.mul_assoc];omega,
   Nat.testBit_two_pow_mul_add _ (by rw [Nat.pow_succ];omega),Nat.testBit_two_pow_sub_one]
 refine ⟨hk,by rw [h1];simp,fun j hj=>by rw [h1,jI (by omega)];rfl,fun j=> ?_⟩;rw [Ra,Nat.testBit_and,h1,h2];by_cases hj:j<k
 ·rw [jI (by omega),jI (show ¬k<j by omega)];simp
 ·by_cases hj2:j=k
  ·subst hj2;simp
  ·rw [aF (by omega),nE (by omega),nE (by omega)];rw [show j - k=(j - (k+1))+1 by omega,Nat.testBit_succ,show (2 * m+1) / 2=m by omega];simp
theorem left_step {c:Cl} {q lim:Nat} {x:UInt64} (h:Left c q lim x) (h0:x≠0) (hl:lim≤64):
  lim≤Lib.ctz 64 x.toNat∧Left c q (Lib.ctz 64 x.toNat+1) (x &&& (x - 1))∧jq c (64 * q+(Lib.ctz 64 x.toNat+1))=jq c (64 * q+lim)++[64 * q+Lib.ctz 64 x.toNat]:=by
 obtain ⟨hk,hb,hz,hs⟩:=Nw x h0;generalize Lib.ctz 64 x.toNat=k at *
 have hlk:lim≤k:=by
  have:=h k hk;rw [hb] at this;by_cases hlk:lim≤k
  ·exact hlk
  ·rw [jI hlk] at this;simp at this
 have hbk:(c.w q).toNat.testBit k=true:=by
  have:=h k hk;rw [hb,nE hlk] at this;simpa using this.symm
 refine ⟨hlk,fun j hj=> ?_,?_⟩
 ·rw [hs,h j hj];by_cases h1:k<j
  ·rw [nE h1,nE (show lim≤j by omega),nE (show k+1≤j by omega)];simp
  ·rw [jI h1,jI (show ¬k+1≤j by omega)];simp
 ·rw [← yN,Av,Cl.zm c q k hk,hbk,aC rfl];congr 1;rw [show 64 * q+k=64 * q+lim+(k - lim) by omega];refine Ew c _ _ fun j h1 h2=> ?_;obtain ⟨i,rfl⟩:∃i,j=64 * q+i:=⟨j - 64 * q,by omega⟩
  rw [Cl.zm c q i (by omega)];have h3:=h i (by omega);rw [hz i (by omega),nE (by omega)] at h3;simpa using h3.symm
theorem adl (x:UInt64) (h0:x≠0):X x - 1=X (x - 1):=by
 unfold X;have hn:x.toNat≠0:=fun e=>h0 (Ub.1 (by rw [e];rfl));rw [UInt64.toNat_sub_of_le _ _ (by rw [UInt64.le_iff_toNat_le];show 1≤x.toNat;omega)];show (x.toNat:Int) - 1=((x.toNat - 1:Nat):Int);omega
def yQ (K:Nat) (W W':World):Prop:=W.heap.size≤W'.heap.size∧∀r,r<K→W'.heap[r]?=W.heap[r]?
theorem KI {K:Nat} {A B C:World} (h:yQ K A B) (k:yQ K B C):yQ K A C:=⟨aL h.1 k.1,fun r hr=>(k.2 r hr).trans (h.2 r hr)⟩
theorem QU (n:Nat) (hn:1≤n) (K:Nat) (c:Cl) (cb:Nat) (w:World) (hT:iw w) (hc:Row oV w cb 65 (aJ c)) (h1:1<K) (h2:cb<K) (hK:K≤w.heap.size):
  ad8 Fence.wide n Tryz.prog 172 #[.pointer (some ⟨cb,0,none⟩)] (fun x:Nat=> #[.int .u8 (x:Int)]) (fun pre x _=>x<256∧pre++[x]<+:jq c 256) (yQ K) (fun xs=>xs=jq c 256) (fun pre=>pre<+:jq c 256∧pre≠[]) w:=by
 intro l J Jx W hW hJ hJx hY h0';have HTW:Hid (∀X,yQ K W X→iw X):=af fun X hX=>(hT.below hW hT.lt).block (hX.2 _ h1);have hcW:Row oV W cb 65 (aJ c):=hc.below hW (by omega);have hKW:K≤W.heap.size:=aL hK hW.size;have HY:=af hY;have HJ:=af hJ;clear hY hJ hJx hT hc hW
 have hix:∀q:Nat,q<4→∀w:World,(Instr.index 65 (.agg (ax c)) (.int .i64 (q:Int))).run Tryz.prog w= .ok (.int .u64 (X (c.w q))) w:=by
  intro q hq w;rcases (by omega:q=0∨q=1∨q=2∨q=3) with rfl | rfl | rfl | rfl<;>kernel_rfl
 have HIX:=af hix;clear hix;refine callsIn_of_wp Tryz.func172 rfl trivial ?_ rfl;simp only [Tryz.ntmps172,AZ,nQ,PS,Nat.reduceAdd,Nat.reduceSub,qcp,qcq,qcL,qcE,J4,T9];have y0:W.cell? ⟨cb,0,none⟩=some (.int .u64 (X c.a)):=by rw [hcW.cell?];rfl
 have y1:W.cell? ⟨cb,1,none⟩=some (.int .u64 (X c.b)):=by rw [hcW.cell?];rfl
 have y2:W.cell? ⟨cb,2,none⟩=some (.int .u64 (X c.c)):=by rw [hcW.cell?];rfl
 have y3:W.cell? ⟨cb,3,none⟩=some (.int .u64 (X c.d)):=by rw [hcW.cell?];rfl
 gi_wp2_with fail
 gi_loopw [3,4,6] (fun _ _ i wr=>∃q:Nat,q≤4∧i= .int .i64 q∧J (jq c (64 * q)) wr∧yQ K W wr) (fun _ _ i _=>4 - (intOf i).toNat)
 case atStart=>exact ⟨0,by omega,rfl,h0',ah _,fun _ _=>rfl⟩
 case round=>
  clear hcW h0' y0 y1 y2 y3;obtain ⟨q,hq,rfl,tK,hk1⟩:=hrel;by_cases hlt:q<4
  ·have hqi:(q:Int)<4:=by omega
   have ix:=HIX.out q hlt;have hKr:K≤wr.heap.size:=aL hKW hk1.1
   gi_wp2_with fail
   gi_loopw [4] (fun s4 wq=>∃(lim:Nat) (x:UInt64),s4= .int .u64 (X x)∧lim≤64∧Hid (Left c q lim x)∧J (jq c (64 * q+lim)) wq∧yQ K W wq) (fun s4 _=>(intOf s4).toNat)
   case atStart=>exact ⟨0,c.w q,rfl,by omega,af (RN c q),tK,hk1⟩
   case round=>
    clear tK hk1 ix;obtain ⟨lim,x,rfl,hlim,HL,hJ2,hk2⟩:=hrel;by_cases hx:x=0
    ·have hz:(X x !=0)=false:=by rw [hx];rfl
     have HE:Hid (J (jq c (64 * (q+1))) wr):=af (by rw [← ZN HL.out hx hlim];exact hJ2);clear hJ2
     gi_wp2
     go_roundw
     case rel=>exact ⟨q+1,by omega,by go_num,HE.out,hk2⟩
     case measure=>simp [intOf];omega
    ·have hz:(X x !=0)=true:=by
      rw [bne_iff_ne];intro h;exact hx (rZ (y:=0) h)
     obtain ⟨hk,_,_,_⟩:=Nw x hx;obtain ⟨hlk,hL2,hm⟩:=left_step HL.out hx hlim;have HTZ:=af (agf wr (HTW.out _ hk2) x hx);have h1x:1≤X x:=by have:=fM x;have:X x≠0:=fun h=>hx (rZ (y:=0) h);omega
     have h2x:=aeh x;have hsub:=adl x hx;have hand:=qm x (x - 1)
     have hlt2:X (x &&& (x - 1))<X x:=by
      have h:=Nat.and_le_right (n:=x.toNat) (m:=(x - 1).toNat);rw [← Ra] at h;have:X (x &&& (x - 1))≤X (x - 1):=by unfold X;omega
      omega
     generalize Lib.ctz 64 x.toNat=k at *
     have hG:64 * q+k<256∧jq c (64 * q+lim)++[64 * q+k]<+:jq c 256:=⟨by omega,by
      rw [← hm,show 256=64 * q+(k+1)+(256 - (64 * q+(k+1))) by omega];exact De c _ _⟩
     have HG:=af hG.2;have HM:=af hm;have HL2:=af hL2;obtain ⟨fn,tmps,assign,body,hy,hR⟩:=HY.out (jq c (64 * q+lim)) (64 * q+k) wr hJ2 hG;rw [show ((64 * q+k:Nat):Int)=64 * (q:Int)+(k:Int) by omega] at hy;clear hG hm hL2 hJ2
     gi_wp2_with fail
     refine ⟨trivial,?_⟩;refine (Ey.2 HTZ.out).mono ?_;rintro e w1 ⟨rfl,rfl⟩;clear HTZ
     gi_wp2
     refine hR.mono ?_;rintro e W2 (⟨rfl,hJ2,hk3⟩ | ⟨rfl,acR⟩)
     ·have hJ3:J (jq c (64 * q+(k+1))) W2:=by rw [HM.out];exact hJ2
      have hk4:=KI hk2 hk3;clear hy hR hJ2 hk3
      gi_wp2
      go_roundw
      case rel=>exact ⟨k+1,x &&& (x - 1),rfl,by omega,HL2,hJ3,hk4⟩
      case measure=>simp [intOf];omega
     ·gi_wp2
      refine fJ (v:= .tuple #[]) (by simp [results,Tryz.results172,go_sem]) rfl ?_;exact ⟨⟨_,rfl⟩, .inr ⟨_,⟨HG.out,by simp⟩,acR⟩⟩
  ·obtain rfl:q=4:=by omega
   gi_wp2
   go_end0;exact ⟨⟨_,rfl⟩, .inl ⟨_,rfl,tK⟩⟩
end
section
open Go Go.RowKit Mem
namespace Mem
variable {P:Program} {ops:Array Oper} {rest:List Oper} {o:Oper} {a:Act} {Q:Exit→Act→World→Prop} {w:World}
theorem Er {src dst e:TypeId} (hs:P.underlying src=some (.slice e)) (he:P.underlying e=some (.int .u8)) (hd:P.underlying dst=some .string) {v:Value} {l:List UInt8} (h:Rd aV w v l):
  (convert src dst v).run P w= .ok (.string ⟨l.toArray⟩) w:=by
 rcases h with ⟨q,rfl,rfl⟩ | ⟨b,o,cap,rfl,_,ha,_⟩
 ·cases q with
  | none=>exact Lib.run_convert_nil_bytes w src dst e 0 hs he hd
  | some ad=>exact qcK w src dst e ad 0 [] hs he hd fun j hj=>by cases hj
 ·refine qcK w src dst e ⟨b,o,none⟩ cap l hs he hd fun j hj=> ?_;have h2:((⟨b,o,none⟩:Addr).add j)=⟨b,o+j,none⟩:=by unfold Addr.add;split<;>simp_all
  rw [h2,ha j hj,bM hj];rfl
theorem xy {src dst e:TypeId} (x:Operand) (hw:Region.wanted o (yielded ops a.tmps)=true) (ho:o.op= .convert src dst x) (hs:P.underlying src=some (.slice e)) (he:P.underlying e=some (.int .u8)) (hd:P.underlying dst=some .string)
  {v:Value} {l:List UInt8} (hx:a.eval x=v) (hv:Rd aV w v l) {s:ByteArray} (hsl:s=⟨l.toArray⟩) (h:wpList P ops Q rest (a.put o.dst (.string s)) w):wpList P ops Q (o::rest) a w:=by
 subst hsl;refine wpList_step fun K hK=> ?_;rw [aC hw];have hrun:=Er (P:=P) hs he hd hv;unfold Oper.wp;simp [execOp,ho,hx,hrun,Result.andThen];exact hK _ _ h
end Mem
theorem Q5 (w:World) (va vb:Value) (x y:List UInt8) (ha:Rd aV w va x) (hb:Rd aV w vb y):
  Calls Tryz.prog 88 #[va,vb] w fun e w'=>e= .returned (.bool (x==y))∧w'=w:=by
 obtain ⟨pa,ca,rfl⟩:=ha.slice;obtain ⟨pb,cb,rfl⟩:=hb.slice;go_enter Tryz.func88,Tryz.ntmps88
 go_wp2_with (first
  | ((with_reducible refine xy (.tmp 5) ?_ ?_ Tryz.underlying22 Tryz.underlying5 Tryz.underlying9 ?_ ha rfl ?_);rfl;rfl;rfl)
  | ((with_reducible refine xy (.tmp 7) ?_ ?_ Tryz.underlying22 Tryz.underlying5 Tryz.underlying9 ?_ hb rfl ?_);rfl;rfl;rfl))
 go_ret;exact ⟨rfl,rfl⟩
theorem ac0 (w:World) (nm:ByteArray) (va vb:Value) (x y:List UInt8) (ha:Rd aV w va x) (hb:Rd aV w vb y):
  Calls Tryz.prog 51 #[.agg #[.string nm,va], .agg #[.string nm,vb]] w fun e w'=>e= .returned (.bool (x==y))∧Below w.heap.size w w':=by
 obtain ⟨pa,ca,rfl⟩:=ha.slice;obtain ⟨pb,cb,rfl⟩:=hb.slice;have hB:Below w.heap.size w ((w.alloc (.cells #[.string nm, .slice pa x.length ca] 139)).alloc (.cells #[.string nm, .slice pb y.length cb] 139)):=((au _ _).alloc (ah _) _).alloc (by simp) _;have ha2:=(ha.alloc (.cells #[.string nm, .slice pa x.length ca] 139)).alloc (.cells #[.string nm, .slice pb y.length cb] 139);have hb2:=(hb.alloc (.cells #[.string nm, .slice pa x.length ca] 139)).alloc (.cells #[.string nm, .slice pb y.length cb] 139);go_enter Tryz.func51,Tryz.ntmps51
 go_wp2_with (first
  | ((with_reducible refine xy (.tmp 12) ?_ ?_ Tryz.underlying22 Tryz.underlying5 Tryz.underlying9 ?_ ha2 rfl ?_);rfl;rfl;rfl)
  | ((with_reducible refine xy (.tmp 15) ?_ ?_ Tryz.underlying22 Tryz.underlying5 Tryz.underlying9 ?_ hb2 rfl ?_);rfl;rfl;rfl))
 go_ret;exact ⟨rfl,hB⟩
theorem zu:bU Tryz.prog 139 2:=⟨fun _=>by kernel_rfl,fun _=>by kernel_rfl⟩
end
section
open Go.RowKit Mem
theorem aaG (s t:ByteArray):(s.toList==t.toList)=decide (s=t):=by
 have h:s.toList=t.toList↔s=t:=by
  rw [ByteArray.toList_eq,ByteArray.toList_eq];obtain ⟨⟨x⟩⟩:=s;obtain ⟨⟨y⟩⟩:=t;simp
 rw [AL,EE,tT,h]
theorem aaA (w:World) (n1 n2:ByteArray) (va vb:Value) (x y:List UInt8) (ha:Rd aV w va x) (hb:Rd aV w vb y):
  Calls Tryz.prog 51 #[.agg #[.string n1,va], .agg #[.string n2,vb]] w fun e w'=>e= .returned (.bool (decide ((n1,x)=(n2,y))))∧Below w.heap.size w w':=by
 by_cases hn:n1=n2
 ·subst hn;refine (ac0 w n1 va vb x y ha hb).mono fun e w' ⟨h1,h2⟩=>⟨?_,h2⟩;rw [h1];congr 2;rw [AL];simp
 ·obtain ⟨pa,ca,rfl⟩:=ha.slice;obtain ⟨pb,cb,rfl⟩:=hb.slice;have hB:Below w.heap.size w ((w.alloc (.cells #[.string n1, .slice pa x.length ca] 139)).alloc (.cells #[.string n2, .slice pb y.length cb] 139)):=((au _ _).alloc (ah _) _).alloc (by simp) _;have q1:(n1.toList==n2.toList)=false:=by rw [aaG];simp [hn]
  have q2:decide ((n1,x)=(n2,y))=false:=by simp [hn]
  rw [q2];go_enter Tryz.func51,Tryz.ntmps51;go_wp2_with fail;go_ret;exact ⟨rfl,hB⟩
def qy (n:ByteArray) (p:Option Addr) (m c:Nat):List OC:=[os n,⟨.slice p m c,rfl⟩]
theorem acA (w:World) (v1 v2:Value) (fs gs:List FL) (h1:Fields w v1 fs) (h2:Fields w v2 gs) (hl:fs.length≤1000000000):
  Calls Tryz.prog 50 #[v1,v2, .func (.func 51) #[] #[]] w fun e w'=>e= .returned (.bool (decide (fs=gs)))∧Below w.heap.size w w':=by
 obtain ⟨p1,k1,rfl⟩:=h1.slice;obtain ⟨p2,k2,rfl⟩:=h2.slice;by_cases hlen:fs.length=gs.length
 ·rw [← hlen] at h2 ⊢;generalize hn:fs.length=n at *;have HF:=af hn;have HG:=af hlen;clear hn hlen;have b3:(((n:Nat):Int) !=((n:Nat):Int))=false:=by simp
  go_enter Tryz.func50,Tryz.ntmps50;go_upto_region 4 with (fail)
  go_loopw [17] (fun i wr=>∃(k:Nat),k≤n∧i= .int .i64 k∧fs.take k=gs.take k∧Below w.heap.size w wr) (fun i _=>n - (intOf i).toNat)
  case atStart=>exact ⟨0,by omega,rfl,by simp,au _ _⟩
  case round=>
   obtain ⟨k,hk,rfl,htk,hbl⟩:=hrel;have HT:=af htk;clear htk;by_cases hlt:k<n
   ·have hq:(k:Int)<(n:Int):=by omega
    have MN:k<fs.length:=by rw [HF.out];exact hlt
    have hkg:k<gs.length:=by rw [← HG.out];exact hlt
    obtain ⟨a1,o1,rfl,hl1,e1,u1,e2,r1⟩:∃b o,p1=some ⟨b,o,none⟩∧b<w.heap.size∧w.cell? ⟨b,o+k * 2,none⟩=some (.string (fs[k]'MN).1)∧∃u,w.cell? ⟨b,o+k * 2+1,none⟩=some u∧Rd aV w u (fs[k]'MN).2:=by
     rcases h1 with ⟨_,h0,h⟩ | ⟨b,o,_,h0,hb,h⟩
     ·rw [h] at MN;simp at MN
     ·cases h0;obtain ⟨g1,u,g2,g3⟩:=h k MN;exact ⟨_,_,rfl,hb,g1,u,g2,g3⟩
    obtain ⟨a2,o2,rfl,hl2,e3,u2,e4,r2⟩:∃b o,p2=some ⟨b,o,none⟩∧b<w.heap.size∧w.cell? ⟨b,o+k * 2,none⟩=some (.string (gs[k]'hkg).1)∧∃u,w.cell? ⟨b,o+k * 2+1,none⟩=some u∧Rd aV w u (gs[k]'hkg).2:=by
     rcases h2 with ⟨_,h0,h⟩ | ⟨b,o,_,h0,hb,h⟩
     ·rw [h] at hkg;simp at hkg
     ·cases h0;obtain ⟨g1,u,g2,g3⟩:=h k hkg;exact ⟨_,_,rfl,hb,g1,u,g2,g3⟩
    obtain ⟨pa,ca,rfl⟩:=r1.slice;obtain ⟨pb,cb,rfl⟩:=r2.slice;generalize hx:(fs[k]'MN).2=x at *;generalize hy:(gs[k]'hkg).2=y at *;generalize hn1:(fs[k]'MN).1=n1 at *;generalize hn2:(gs[k]'hkg).1=n2 at *;have HD:=af (And.intro hx (And.intro hy (And.intro hn1 hn2)));have HA:=af r1;have HB:=af r2;clear hx hy hn1 hn2 r1 r2
    have t1:∀X,Below w.heap.size w X→At oV X a1 (o1+k * 2) (qy n1 pa x.length ca):=fun X hX i hi=>by
     rcases (by simp [qy] at hi;omega:i=0∨i=1) with rfl | rfl
     ·exact (hX.cell (p:=⟨a1,_,none⟩) hl1).trans e1
     ·exact (hX.cell (p:=⟨a1,_,none⟩) hl1).trans e2
    have t2:∀X,Below w.heap.size w X→At oV X a2 (o2+k * 2) (qy n2 pb y.length cb):=fun X hX i hi=>by
     rcases (by simp [qy] at hi;omega:i=0∨i=1) with rfl | rfl
     ·exact (hX.cell (p:=⟨a2,_,none⟩) hl2).trans e3
     ·exact (hX.cell (p:=⟨a2,_,none⟩) hl2).trans e4
    have HT1:=af t1;have HT2:=af t2;clear t1 t2 e1 e2 e3 e4;have hB1:Below w.heap.size w (wr.alloc (.cells #[.string n1, .slice pa x.length ca] 139)):=hbl.alloc hbl.size _;have s1:=HT1.out wr hbl;have s2:=HT2.out _ hB1
    go_upto_region 7 with (first
     | ((with_reducible refine zL s1 zu rfl (C:=#[.string n1, .slice pa x.length ca]) ?_))
     | ((with_reducible refine zL s2 zu rfl (C:=#[.string n2, .slice pb y.length cb]) ?_)))
    have hB2:Below w.heap.size w ((wr.alloc (.cells #[.string n1, .slice pa x.length ca] 139)).alloc (.cells #[.string n2, .slice pb y.length cb] 139)):=hB1.alloc hB1.size _;have w1:Row oV ((wr.alloc (.cells #[.string n1, .slice pa x.length ca] 139)).alloc (.cells #[.string n2, .slice pb y.length cb] 139)) wr.heap.size 139 (qy n1 pa x.length ca):=Row.alloc (Row.new (f:=oV) (l:=qy n1 pa x.length ca) wr (.cells #[.string n1, .slice pa x.length ca] 139) rfl) _;have w2:Row oV ((wr.alloc (.cells #[.string n1, .slice pa x.length ca] 139)).alloc (.cells #[.string n2, .slice pb y.length cb] 139)) (wr.heap.size+1) 139 (qy n2 pb y.length cb):=dH _ _ _ (by simp);clear s1 s2 hB1;generalize ((wr.alloc (.cells #[.string n1, .slice pa x.length ca] 139)).alloc (.cells #[.string n2, .slice pb y.length cb] 139))=X at hB2 w1 w2 ⊢
    go_wp2_with (first
     | ((with_reducible refine zL w1.at zu rfl (C:=#[.string n1, .slice pa x.length ca]) ?_))
     | ((with_reducible refine zL w2.at zu rfl (C:=#[.string n2, .slice pb y.length cb]) ?_)))
    refine (aaA X n1 n2 _ _ x y (HA.out.below hB2) (HB.out.below hB2)).mono ?_;rintro e X2 ⟨rfl,hB3⟩;replace hB2:=hB2.trans (hB3.mono hB2.size);clear w1 w2 hB3
    have HS:Hid (((n1,x)=(n2,y))↔fs.take (k+1)=gs.take (k+1)):=af (by
     obtain ⟨d1,d2,d3,d4⟩:=HD.out
     rw [AX MN,AX hkg,HT.out,List.append_cancel_left_eq,← d1,← d2,← d3,← d4]
     exact (show (fs[k]'MN)=(gs[k]'hkg)↔[fs[k]'MN]=[gs[k]'hkg] by simp))
    by_cases he:(n1,x)=(n2,y)
    ·have hd:decide ((n1,x)=(n2,y))=true:=nE he;rw [hd];have HE:=af (HS.out.1 he);clear he hd;go_wp2
     go_roundw
     case rel=>exact ⟨k+1,by omega,by go_num,HE.out,hB2⟩
     case measure=>simp [intOf];omega
    ·have hd:decide ((n1,x)=(n2,y))=false:=jI he;rw [hd];have HE:Hid (decide (fs=gs)=false):=af (jI fun h=>he (HS.out.2 (by rw [h])));clear he hd;go_wp2;go_ret;exact ⟨by rw [HE.out];rfl,hB2⟩
   ·have hq:¬(k:Int)<(n:Int):=by omega
    have HE:Hid (decide (fs=gs)=true):=af (nE (by
     have h:=HT.out
     rwa [qj (by rw [HF.out];omega),qj (by rw [← HG.out];omega)] at h))
    go_wp2;go_ret;exact ⟨by rw [HE.out];rfl,hbl⟩
 ·have b3:((fs.length:Int) !=(gs.length:Int))=true:=by simp;omega
  have HE:Hid (decide (fs=gs)=false):=af (jI fun h=>hlen (by rw [h]));go_enter Tryz.func50,Tryz.ntmps50;go_wp2;go_ret;exact ⟨by rw [HE.out];rfl,au _ _⟩
def fC.alike (r s:fC):Bool:=if r.ok && s.ok then decide (r.fs=s.fs) else r.ok==s.ok
theorem CU (w:World) (v1 v2:Value) (r s:fC) (h1:uB w v1 r) (h2:uB w v2 s) (hl:r.fs.length≤1000000000):
  Calls Tryz.prog 15 #[v1,v2] w fun e w'=>e= .returned (.bool (r.alike s))∧Below w.heap.size w w':=by
 obtain ⟨u1,rfl,f1⟩:=h1;obtain ⟨u2,rfl,f2⟩:=h2;obtain ⟨p1,k1,rfl⟩:=f1.slice;obtain ⟨p2,k2,rfl⟩:=f2.slice;obtain ⟨ok1,c1,fs⟩:=r;obtain ⟨ok2,c2,gs⟩:=s;simp only at f1 f2 hl ⊢;have hB:Below w.heap.size w ((w.alloc (.cells #[.bool ok1, .int .i64 c1, .slice p1 fs.length k1] 53)).alloc (.cells #[.bool ok2, .int .i64 c2, .slice p2 gs.length k2] 53)):=((au _ _).alloc (ah _) _).alloc (by simp) _;have hc:=acA _ _ _ fs gs (f1.below hB) (f2.below hB) hl;clear f1 f2;go_enter Tryz.func15,Tryz.ntmps15;cases ok1<;>cases ok2
 ·go_wp2;go_ret;exact ⟨rfl,hB⟩
 ·go_wp2;go_ret;exact ⟨rfl,hB⟩
 ·go_wp2;go_ret;exact ⟨rfl,hB⟩
 ·go_wp2_with fail;refine hc.mono ?_;rintro e W2 ⟨rfl,hB2⟩;go_wp2;go_ret;exact ⟨rfl,hB.trans (hB2.mono hB.size)⟩
end
end Go.Proofs.YtncnfncglacheaaGreatDoor
