/- Part of a proof. -/
import Derived.Test.YtncnfncglacheaaGreatDoorMHeldD
set_option linter.all false
set_option maxRecDepth 100000
set_option maxHeartbeats 64000000
namespace Go.Proofs.YtncnfncglacheaaGreatDoor
section
open Go Go.RowKit Mem
structure Cl where
 a:UInt64
 b:UInt64
 c:UInt64
 d:UInt64
deriving DecidableEq
abbrev au (c:Cl):Array Value:= #[.int .u64 (X c.a), .int .u64 (X c.b), .int .u64 (X c.c), .int .u64 (X c.d)]
def aG (c:Cl):List OC:=[ow (X c.a),ow (X c.b),ow (X c.c),ow (X c.d)]
theorem ay:bR Tryz.prog 65 4:=⟨fun _=>by kernel_rfl,fun _=>by kernel_rfl⟩
theorem oQ (x:UInt64):X (fT x)≤127:=by
 have h:∀y:UInt64,X (y &&& 127)≤127:=by
  intro y;have h2:(y &&& 127).toNat<2 ^ 7:=by rw [Qy];exact Nat.and_lt_two_pow _ (by decide)
  unfold X;omega
 exact h _
def Cl.size (c:Cl):Int:=X (fT c.a)+X (fT c.b)+X (fT c.c)+X (fT c.d)
theorem Dt (w:World) (c:Cl):Calls Tryz.prog 56 #[.agg (au c)] w fun e w'=>e= .returned (.int .i64 c.size)∧Below w.heap.size w w':=by
 have x0:∀w,(Instr.index 65 (.agg (au c)) (.int .i64 0)).run Tryz.prog w= .ok (.int .u64 (X c.a)) w:=fun w=>by first | rfl | kernel_rfl
 have x1:∀w,(Instr.index 65 (.agg (au c)) (.int .i64 1)).run Tryz.prog w= .ok (.int .u64 (X c.b)) w:=fun w=>by first | rfl | kernel_rfl
 have x2:∀w,(Instr.index 65 (.agg (au c)) (.int .i64 2)).run Tryz.prog w= .ok (.int .u64 (X c.c)) w:=fun w=>by first | rfl | kernel_rfl
 have x3:∀w,(Instr.index 65 (.agg (au c)) (.int .i64 3)).run Tryz.prog w= .ok (.int .u64 (X c.d)) w:=fun w=>by first | rfl | kernel_rfl
 have hr:Row oV (w.alloc (.cells (au c) 65)) w.heap.size 65 (aG c):=Row.new _ _ rfl;have hB:Below w.heap.size w (w.alloc (.cells (au c) 65)):=(ak _ _).alloc (af _) _;go_enter Tryz.func56,Tryz.ntmps56
 go_wp2_with (first
  | ((with_reducible refine zL hr.at ay rfl (C:=au c) ?_)))
 generalize (w.alloc (.cells (au c) 65))=W at hB ⊢;clear hr;have b1:=oQ c.a;have b2:=oQ c.b;have b3:=oQ c.c;have b4:=oQ c.d;have n1:=fH (fT c.a);have n2:=fH (fT c.b);have n3:=fH (fT c.c);have n4:=fH (fT c.d);have w1:wrap64 (X (fT c.a))=X (fT c.a):=by unfold wrap64;omega
 have w2:wrap64 (X (fT c.a)+X (fT c.b))=X (fT c.a)+X (fT c.b):=by unfold wrap64;omega
 have w3:wrap64 (X (fT c.a)+X (fT c.b)+X (fT c.c))=X (fT c.a)+X (fT c.b)+X (fT c.c):=by unfold wrap64;omega
 have w4:wrap64 (X (fT c.a)+X (fT c.b)+X (fT c.c)+X (fT c.d))=X (fT c.a)+X (fT c.b)+X (fT c.c)+X (fT c.d):=by unfold wrap64;omega
 refine wp_loop_rounds 5 ?_;refine aj (n:=4) ?_;go_wp2_with fail;refine (onesCount _ c.a).mono ?_;rintro e W0 ⟨rfl,rfl⟩;go_wp2_with fail;refine aj (n:=3) ?_;go_wp2_with fail;refine (onesCount _ c.b).mono ?_;rintro e W1 ⟨rfl,rfl⟩;go_wp2_with fail;refine aj (n:=2) ?_;go_wp2_with fail;refine (onesCount _ c.c).mono ?_;rintro e W2 ⟨rfl,rfl⟩;go_wp2_with fail;refine aj (n:=1) ?_;go_wp2_with fail;refine (onesCount _ c.d).mono ?_;rintro e W3 ⟨rfl,rfl⟩;go_wp2_with fail;refine aj (n:=0) ?_;go_wp2;go_ret;exact ⟨rfl,hB⟩
def Cl.w (c:Cl) (i:Nat):UInt64:=match i with | 0=>c.a | 1=>c.b | 2=>c.c | _=>c.d
def Cl.has (c:Cl) (b:UInt8):Bool:=c.w (b.toNat / 64) &&& ((1:UInt64)<<<UInt64.ofNat (b.toNat % 64)) !=0
theorem xU (c:Cl) (q:Nat) (h:q<4):(aG c)[q]?=some (ow (X (c.w q))):=by
 rcases (by omega:q=0∨q=1∨q=2∨q=3) with rfl | rfl | rfl | rfl<;>rfl
theorem KD (r:Nat) (h:r<64):IntKind.u64.wrap ((2:Int) ^ r)=X ((1:UInt64)<<<UInt64.ofNat r):=by
 unfold X;rw [qcu,UInt64.toNat_shiftLeft,Nat.shiftLeft_eq];have h1:(UInt64.ofNat r).toNat % 64=r:=by rw [qcE (by simp [UInt64.size];omega)];omega
 rw [h1,show (1:UInt64).toNat=1 from rfl,Un];simp
theorem Yo (x:UInt64) (r:Nat) (h:r<64):(bits .and .u64 (X x) (IntKind.u64.wrap ((2:Int) ^ r)) !=0)=(x &&& ((1:UInt64)<<<UInt64.ofNat r) !=0):=by
 rw [KD r h,qc];generalize x &&& _=y;have:X y=0↔y=0:=⟨fun h=>rJ (y:=0) h,fun h=>by rw [h];rfl⟩
 rw [Dr];simp [this]
theorem Tf (w:World) (c:Cl) (b:UInt8):Calls Tryz.prog 118 #[.agg (au c), .int .u8 (b.toNat:Int)] w fun e w'=>e= .returned (.bool (c.has b))∧Below w.heap.size w w':=by
 obtain ⟨q,r,hq,hr,hn⟩:∃q r,q<4∧r<64∧b.toNat=64 * q+r:=⟨b.toNat / 64,b.toNat % 64,by have:=b.toNat_lt;omega,by omega,by omega⟩
 have hh:c.has b=(c.w q &&& ((1:UInt64)<<<UInt64.ofNat r) !=0):=by
  unfold Cl.has;rw [show b.toNat / 64=q by omega,show b.toNat % 64=r by omega]
 rw [hh];have hrow:Row oV (w.alloc (.cells (au c) 65)) w.heap.size 65 (aG c):=Row.new _ _ rfl;have hB:Below w.heap.size w (w.alloc (.cells (au c) 65)):=(ak _ _).alloc (af _) _;have hc:(w.alloc (.cells (au c) 65)).cell? ⟨w.heap.size,q,none⟩=some (.int .u64 (X (c.w q))):=by rw [hrow.cell?,xU c q hq];rfl
 have d1:((b.toNat:Int)).tdiv 64=(q:Int):=by rw [hn,WK (by omega)];omega
 have d2:((b.toNat:Int)).tmod 64=(r:Int):=by rw [hn,Lp (by omega)];omega
 have d3:(b.toNat:Int) / 64=(q:Int):=by omega
 have d4:(b.toNat:Int) % 64=(r:Int):=by omega
 clear hn hrow hh;go_enter Tryz.func118,Tryz.ntmps118;go_upto_region 1 with (fail);generalize (w.alloc (.cells (au c) 65))=W at hB hc ⊢;have hq':(q:Int)<4:=by omega
 go_wp2_with fail;go_ret;exact ⟨by rw [← Yo _ r hr];rfl,hB⟩
theorem ah {B:Nat} {a w:World} (h:Below B a w) (hB:B≤a.heap.size) (o:Obj):Below B a (w.alloc o):=h.alloc (aJ hB h.size) o
theorem UU (w:World) (x y:UInt64):Calls Tryz.prog 95 #[.int .u64 (X x), .int .u64 (X y)] w fun e w'=>e= .returned (.int .u64 (X (x ||| y)))∧w'=w:=by
 have h:=Jh x y;go_enter Tryz.func95,Tryz.ntmps95;go_wp2;go_ret;exact ⟨rfl,rfl⟩
def Cl.union (x y:Cl):Cl:=⟨x.a ||| y.a,x.b ||| y.b,x.c ||| y.c,x.d ||| y.d⟩
abbrev fJ:Array Value:= #[.int .u64 0, .int .u64 0, .int .u64 0, .int .u64 0]
theorem Sy (w:World) (x y:Cl):Calls Tryz.prog 94 #[.agg (au x), .agg (au y), .func (.func 95) #[] #[]] w fun e w'=>e= .returned (.agg (au (x.union y)))∧Below w.heap.size w w':=by
 go_enter Tryz.func94,Tryz.ntmps94;go_upto_region 2 with (fail)
 obtain ⟨W,hW,hB,hs,r0,r1,r2,r3⟩:∃W,((((w.alloc (.cells (au x) 65)).alloc (.cells (au y) 65)).alloc (.cells fJ 65)).alloc (.cells fJ 65))=W∧Below w.heap.size w W∧W.heap.size=w.heap.size+4∧W.heap[w.heap.size]?=some (.cells (au x) 65 (0,0))∧W.heap[w.heap.size+1]?=some (.cells (au y) 65 (0,0))∧W.heap[w.heap.size+1+1]?=some (.cells fJ 65 (0,0))∧W.heap[w.heap.size+1+1+1]?=some (.cells fJ 65 (0,0)):=by
  refine ⟨_,rfl,?_,by simp,?_,?_,?_,?_⟩
  ·exact ah (ah (ah (ah (ak _ _) (af _) _) (af _) _) (af _) _) (af _) _
  all_goals repeat (first | (refine dA _ _ _ ?_;(simp;done)) | (refine (o5 _ _ _ ?_).trans ?_;·(simp<;>omega)))
 rw [hW];clear hW;replace r0:Row oV W w.heap.size 65 (aG x):=r0;replace r1:Row oV W (w.heap.size+1) 65 (aG y):=r1;replace r2:Row oV W (w.heap.size+1+1) 65 [ow 0,ow 0,ow 0,ow 0]:=r2;replace r3:Row oV W (w.heap.size+1+1+1) 65 [ow 0,ow 0,ow 0,ow 0]:=r3;have hs':w.heap.size+4≤W.heap.size:=Iz hs.symm;clear hs;go_wp2_with fail;refine wp_loop_rounds 5 ?_;refine aj (n:=4) ?_;go_upto_region 5 with (fail);have ha:∀X,Below W.heap.size W X→X.cell? ⟨w.heap.size,0,none⟩=some (.int .u64 (Go.Proofs.YtncnfncglacheaaGreatDoor.X x.a)):=fun X h=>by rw [(r0.below h r0.lt).cell?];rfl
 have hb:∀X,Below W.heap.size W X→X.cell? ⟨w.heap.size+1,0,none⟩=some (.int .u64 (Go.Proofs.YtncnfncglacheaaGreatDoor.X y.a)):=fun X h=>by rw [(r1.below h r1.lt).cell?];rfl
 refine aC (S:=fun X=>Below W.heap.size W X) 9 rfl (by kernel_rfl) (ak _ _).drew fun hS=> ?_;refine tk 0 12 (.int .i64 0) hS ?_;refine tk 1 13 (.func (.func 95) #[] #[]) hS ?_;refine tk 2 14 (.int .i64 0) hS ?_;refine tk 3 15 (.pointer (some ⟨w.heap.size,0,none⟩)) hS ?_;refine tk 4 16 (.int .u64 (X x.a)) hS ?_ rfl (qi fun W' h=>by have q0:=ha W' h;have q1:=hb W' h;go_simp);refine tk 5 17 (.int .i64 0) hS ?_;refine tk 6 18 (.pointer (some ⟨w.heap.size+1,0,none⟩)) hS ?_;refine tk 7 19 (.int .u64 (X y.a)) hS ?_ rfl (qi fun W' h=>by have q0:=ha W' h;have q1:=hb W' h;go_simp);refine iT 8 (fun K' hK=> ?_);refine cD 20 95 #[.int .u64 (X x.a), .int .u64 (X y.a)] ?_;refine (UU _ x.a y.a).mono ?_;rintro e Wa ⟨rfl,rfl⟩;refine ⟨_,rfl,hK.out _ _ hS fun _=> ?_⟩;clear hK ha hb;simp only [sA,sB,sC];refine aL (by kernel_rfl) ?_;simp only [List.drop];replace r0:=r0.drew;replace r1:=r1.drew;replace r2:=r2.drew;replace r3:=r3.drew;replace hB:=hB.drew;replace hs':w.heap.size+4≤W.drew.heap.size:=hs';clear hS;generalize W.drew=Y at *;have e3:Y.cell? ⟨w.heap.size+1+1+1,0,none⟩=some (.int .u64 0):=by rw [r3.cell?];rfl
 have f3:=r3.frozen 0;go_wp2_with fail;replace r3:Row oV (Y.setCell ⟨w.heap.size+1+1+1,0,none⟩ (.int .u64 (X (x.a ||| y.a)))) (w.heap.size+1+1+1) 65 [ow (X (x.a ||| y.a)),ow 0,ow 0,ow 0]:=r3.set 0 (ow (X (x.a ||| y.a)));replace r0:=r0.ai (b':=w.heap.size+1+1+1) (by omega) 0 (.int .u64 (X (x.a ||| y.a)));replace r1:=r1.ai (b':=w.heap.size+1+1+1) (by omega) 0 (.int .u64 (X (x.a ||| y.a)));replace r2:=r2.ai (b':=w.heap.size+1+1+1) (by omega) 0 (.int .u64 (X (x.a ||| y.a)));replace hB:=aM hB (b:=w.heap.size+1+1+1) 0 (by omega) (.int .u64 (X (x.a ||| y.a)));replace hs':w.heap.size+4≤(Y.setCell ⟨w.heap.size+1+1+1,0,none⟩ (.int .u64 (X (x.a ||| y.a)))).heap.size:=by simpa using hs'
 clear e3 f3;generalize (Y.setCell ⟨w.heap.size+1+1+1,0,none⟩ (.int .u64 (X (x.a ||| y.a))))=W at *;refine aj (n:=3) ?_;go_upto_region 5 with (fail);have ha:∀X,Below W.heap.size W X→X.cell? ⟨w.heap.size,1,none⟩=some (.int .u64 (Go.Proofs.YtncnfncglacheaaGreatDoor.X x.b)):=fun X h=>by rw [(r0.below h r0.lt).cell?];rfl
 have hb:∀X,Below W.heap.size W X→X.cell? ⟨w.heap.size+1,1,none⟩=some (.int .u64 (Go.Proofs.YtncnfncglacheaaGreatDoor.X y.b)):=fun X h=>by rw [(r1.below h r1.lt).cell?];rfl
 refine aC (S:=fun X=>Below W.heap.size W X) 9 rfl (by kernel_rfl) (ak _ _).drew fun hS=> ?_;refine tk 0 12 (.int .i64 1) hS ?_;refine tk 1 13 (.func (.func 95) #[] #[]) hS ?_;refine tk 2 14 (.int .i64 1) hS ?_;refine tk 3 15 (.pointer (some ⟨w.heap.size,1,none⟩)) hS ?_;refine tk 4 16 (.int .u64 (X x.b)) hS ?_ rfl (qi fun W' h=>by have q0:=ha W' h;have q1:=hb W' h;go_simp);refine tk 5 17 (.int .i64 1) hS ?_;refine tk 6 18 (.pointer (some ⟨w.heap.size+1,1,none⟩)) hS ?_;refine tk 7 19 (.int .u64 (X y.b)) hS ?_ rfl (qi fun W' h=>by have q0:=ha W' h;have q1:=hb W' h;go_simp);refine iT 8 (fun K' hK=> ?_);refine cD 20 95 #[.int .u64 (X x.b), .int .u64 (X y.b)] ?_;refine (UU _ x.b y.b).mono ?_;rintro e Wa ⟨rfl,rfl⟩;refine ⟨_,rfl,hK.out _ _ hS fun _=> ?_⟩;clear hK ha hb;simp only [sA,sB,sC];refine aL (by kernel_rfl) ?_;simp only [List.drop];replace r0:=r0.drew;replace r1:=r1.drew;replace r2:=r2.drew;replace r3:=r3.drew;replace hB:=hB.drew;replace hs':w.heap.size+4≤W.drew.heap.size:=hs';clear hS;generalize W.drew=Y at *;have e3:Y.cell? ⟨w.heap.size+1+1+1,1,none⟩=some (.int .u64 0):=by rw [r3.cell?];rfl
 have f3:=r3.frozen 1;go_wp2_with fail;replace r3:Row oV (Y.setCell ⟨w.heap.size+1+1+1,1,none⟩ (.int .u64 (X (x.b ||| y.b)))) (w.heap.size+1+1+1) 65 [ow (X (x.a ||| y.a)),ow (X (x.b ||| y.b)),ow 0,ow 0]:=r3.set 1 (ow (X (x.b ||| y.b)));replace r0:=r0.ai (b':=w.heap.size+1+1+1) (by omega) 1 (.int .u64 (X (x.b ||| y.b)));replace r1:=r1.ai (b':=w.heap.size+1+1+1) (by omega) 1 (.int .u64 (X (x.b ||| y.b)));replace r2:=r2.ai (b':=w.heap.size+1+1+1) (by omega) 1 (.int .u64 (X (x.b ||| y.b)));replace hB:=aM hB (b:=w.heap.size+1+1+1) 1 (by omega) (.int .u64 (X (x.b ||| y.b)));replace hs':w.heap.size+4≤(Y.setCell ⟨w.heap.size+1+1+1,1,none⟩ (.int .u64 (X (x.b ||| y.b)))).heap.size:=by simpa using hs'
 clear e3 f3;generalize (Y.setCell ⟨w.heap.size+1+1+1,1,none⟩ (.int .u64 (X (x.b ||| y.b))))=W at *;refine aj (n:=2) ?_;go_upto_region 5 with (fail);have ha:∀X,Below W.heap.size W X→X.cell? ⟨w.heap.size,2,none⟩=some (.int .u64 (Go.Proofs.YtncnfncglacheaaGreatDoor.X x.c)):=fun X h=>by rw [(r0.below h r0.lt).cell?];rfl
 have hb:∀X,Below W.heap.size W X→X.cell? ⟨w.heap.size+1,2,none⟩=some (.int .u64 (Go.Proofs.YtncnfncglacheaaGreatDoor.X y.c)):=fun X h=>by rw [(r1.below h r1.lt).cell?];rfl
 refine aC (S:=fun X=>Below W.heap.size W X) 9 rfl (by kernel_rfl) (ak _ _).drew fun hS=> ?_;refine tk 0 12 (.int .i64 2) hS ?_;refine tk 1 13 (.func (.func 95) #[] #[]) hS ?_;refine tk 2 14 (.int .i64 2) hS ?_;refine tk 3 15 (.pointer (some ⟨w.heap.size,2,none⟩)) hS ?_;refine tk 4 16 (.int .u64 (X x.c)) hS ?_ rfl (qi fun W' h=>by have q0:=ha W' h;have q1:=hb W' h;go_simp);refine tk 5 17 (.int .i64 2) hS ?_;refine tk 6 18 (.pointer (some ⟨w.heap.size+1,2,none⟩)) hS ?_;refine tk 7 19 (.int .u64 (X y.c)) hS ?_ rfl (qi fun W' h=>by have q0:=ha W' h;have q1:=hb W' h;go_simp);refine iT 8 (fun K' hK=> ?_);refine cD 20 95 #[.int .u64 (X x.c), .int .u64 (X y.c)] ?_;refine (UU _ x.c y.c).mono ?_;rintro e Wa ⟨rfl,rfl⟩;refine ⟨_,rfl,hK.out _ _ hS fun _=> ?_⟩;clear hK ha hb;simp only [sA,sB,sC];refine aL (by kernel_rfl) ?_;simp only [List.drop];replace r0:=r0.drew;replace r1:=r1.drew;replace r2:=r2.drew;replace r3:=r3.drew;replace hB:=hB.drew;replace hs':w.heap.size+4≤W.drew.heap.size:=hs';clear hS;generalize W.drew=Y at *;have e3:Y.cell? ⟨w.heap.size+1+1+1,2,none⟩=some (.int .u64 0):=by rw [r3.cell?];rfl
 have f3:=r3.frozen 2;go_wp2_with fail;replace r3:Row oV (Y.setCell ⟨w.heap.size+1+1+1,2,none⟩ (.int .u64 (X (x.c ||| y.c)))) (w.heap.size+1+1+1) 65 [ow (X (x.a ||| y.a)),ow (X (x.b ||| y.b)),ow (X (x.c ||| y.c)),ow 0]:=r3.set 2 (ow (X (x.c ||| y.c)));replace r0:=r0.ai (b':=w.heap.size+1+1+1) (by omega) 2 (.int .u64 (X (x.c ||| y.c)));replace r1:=r1.ai (b':=w.heap.size+1+1+1) (by omega) 2 (.int .u64 (X (x.c ||| y.c)));replace r2:=r2.ai (b':=w.heap.size+1+1+1) (by omega) 2 (.int .u64 (X (x.c ||| y.c)));replace hB:=aM hB (b:=w.heap.size+1+1+1) 2 (by omega) (.int .u64 (X (x.c ||| y.c)));replace hs':w.heap.size+4≤(Y.setCell ⟨w.heap.size+1+1+1,2,none⟩ (.int .u64 (X (x.c ||| y.c)))).heap.size:=by simpa using hs'
 clear e3 f3;generalize (Y.setCell ⟨w.heap.size+1+1+1,2,none⟩ (.int .u64 (X (x.c ||| y.c))))=W at *;refine aj (n:=1) ?_;go_upto_region 5 with (fail);have ha:∀X,Below W.heap.size W X→X.cell? ⟨w.heap.size,3,none⟩=some (.int .u64 (Go.Proofs.YtncnfncglacheaaGreatDoor.X x.d)):=fun X h=>by rw [(r0.below h r0.lt).cell?];rfl
 have hb:∀X,Below W.heap.size W X→X.cell? ⟨w.heap.size+1,3,none⟩=some (.int .u64 (Go.Proofs.YtncnfncglacheaaGreatDoor.X y.d)):=fun X h=>by rw [(r1.below h r1.lt).cell?];rfl
 refine aC (S:=fun X=>Below W.heap.size W X) 9 rfl (by kernel_rfl) (ak _ _).drew fun hS=> ?_;refine tk 0 12 (.int .i64 3) hS ?_;refine tk 1 13 (.func (.func 95) #[] #[]) hS ?_;refine tk 2 14 (.int .i64 3) hS ?_;refine tk 3 15 (.pointer (some ⟨w.heap.size,3,none⟩)) hS ?_;refine tk 4 16 (.int .u64 (X x.d)) hS ?_ rfl (qi fun W' h=>by have q0:=ha W' h;have q1:=hb W' h;go_simp);refine tk 5 17 (.int .i64 3) hS ?_;refine tk 6 18 (.pointer (some ⟨w.heap.size+1,3,none⟩)) hS ?_;refine tk 7 19 (.int .u64 (X y.d)) hS ?_ rfl (qi fun W' h=>by have q0:=ha W' h;have q1:=hb W' h;go_simp);refine iT 8 (fun K' hK=> ?_);refine cD 20 95 #[.int .u64 (X x.d), .int .u64 (X y.d)] ?_;refine (UU _ x.d y.d).mono ?_;rintro e Wa ⟨rfl,rfl⟩;refine ⟨_,rfl,hK.out _ _ hS fun _=> ?_⟩;clear hK ha hb;simp only [sA,sB,sC];refine aL (by kernel_rfl) ?_;simp only [List.drop];replace r0:=r0.drew;replace r1:=r1.drew;replace r2:=r2.drew;replace r3:=r3.drew;replace hB:=hB.drew;replace hs':w.heap.size+4≤W.drew.heap.size:=hs';clear hS;generalize W.drew=Y at *;have e3:Y.cell? ⟨w.heap.size+1+1+1,3,none⟩=some (.int .u64 0):=by rw [r3.cell?];rfl
 have f3:=r3.frozen 3;go_wp2_with fail;replace r3:Row oV (Y.setCell ⟨w.heap.size+1+1+1,3,none⟩ (.int .u64 (X (x.d ||| y.d)))) (w.heap.size+1+1+1) 65 [ow (X (x.a ||| y.a)),ow (X (x.b ||| y.b)),ow (X (x.c ||| y.c)),ow (X (x.d ||| y.d))]:=r3.set 3 (ow (X (x.d ||| y.d)));replace r0:=r0.ai (b':=w.heap.size+1+1+1) (by omega) 3 (.int .u64 (X (x.d ||| y.d)));replace r1:=r1.ai (b':=w.heap.size+1+1+1) (by omega) 3 (.int .u64 (X (x.d ||| y.d)));replace r2:=r2.ai (b':=w.heap.size+1+1+1) (by omega) 3 (.int .u64 (X (x.d ||| y.d)));replace hB:=aM hB (b:=w.heap.size+1+1+1) 3 (by omega) (.int .u64 (X (x.d ||| y.d)));replace hs':w.heap.size+4≤(Y.setCell ⟨w.heap.size+1+1+1,3,none⟩ (.int .u64 (X (x.d ||| y.d)))).heap.size:=by simpa using hs'
 clear e3 f3;generalize (Y.setCell ⟨w.heap.size+1+1+1,3,none⟩ (.int .u64 (X (x.d ||| y.d))))=W at *;refine aj (n:=0) ?_
 go_wp2_with (first
  | ((with_reducible refine zL (Row.at r3) ay rfl (C:=au (x.union y)) ?_))
  | ((with_reducible refine zS (l':=aG (x.union y)) r2 ay ?_);(intro W6 hs6 di fO)))
 refine bodyPost_ret (aQ (f:=oV) (l:=aG (x.union y)) rfl _ ay (w.heap.size+1+1) 0 rfl hs6.at) rfl ?_;exact ⟨rfl,hB.grown di hB.size (fun k e=>by cases e;omega)⟩
theorem II (w:World) (x y:Cl):Calls Tryz.prog 57 #[.agg (au x), .agg (au y)] w fun e w'=>e= .returned (.agg (au (x.union y)))∧Below w.heap.size w w':=by
 go_enter Tryz.func57,Tryz.ntmps57;go_upto_region 1 with (fail)
 obtain ⟨W,hW,hB,hs,r0,r1,r2⟩:∃W,(((w.alloc (.cells (au x) 65)).alloc (.cells (au y) 65)).alloc (.cells fJ 65))=W∧Below w.heap.size w W∧W.heap.size=w.heap.size+3∧W.heap[w.heap.size]?=some (.cells (au x) 65 (0,0))∧W.heap[w.heap.size+1]?=some (.cells (au y) 65 (0,0))∧W.heap[w.heap.size+1+1]?=some (.cells fJ 65 (0,0)):=by
  refine ⟨_,rfl,?_,by simp,?_,?_,?_⟩
  ·exact ah (ah (ah (ak _ _) (af _) _) (af _) _) (af _) _
  all_goals repeat (first | (refine dA _ _ _ ?_;(simp;done)) | (refine (o5 _ _ _ ?_).trans ?_;·(simp<;>omega)))
 rw [hW];clear hW;replace r0:Row oV W w.heap.size 65 (aG x):=r0;replace r1:Row oV W (w.heap.size+1) 65 (aG y):=r1;replace r2:Row oV W (w.heap.size+1+1) 65 [ow 0,ow 0,ow 0,ow 0]:=r2;have hs':w.heap.size+3≤W.heap.size:=Iz hs.symm;clear hs
 go_wp2_with (first
  | ((with_reducible refine zL r0.at ay rfl (C:=au x) ?_))
  | ((with_reducible refine zL r1.at ay rfl (C:=au y) ?_)))
 refine (Sy W x y).mono ?_;rintro e W2 ⟨rfl,hB2⟩;replace r2:=r2.below hB2 r2.lt;replace hB:=hB.trans (hB2.mono hB.size)
 go_wp2_with (first
  | ((with_reducible refine zS (l':=aG (x.union y)) r2 ay ?_);(intro W6 hs6 di fO)))
 refine bodyPost_ret (aQ (f:=oV) (l:=aG (x.union y)) rfl _ ay (w.heap.size+1+1) 0 rfl hs6.at) rfl ?_;exact ⟨rfl,hB.grown di hB.size (fun k e=>by cases e;omega)⟩
def Cl.mem (c:Cl) (i:Nat):Bool:=(c.w (i / 64)).toNat.testBit (i % 64)
theorem Z7 (r:Nat) (h:r<64):((1:UInt64)<<<UInt64.ofNat r).toNat=2 ^ r:=by
 rw [UInt64.toNat_shiftLeft,Nat.shiftLeft_eq];have h1:(UInt64.ofNat r).toNat % 64=r:=by rw [qcE (by simp [UInt64.size];omega)];omega
 rw [h1,show (1:UInt64).toNat=1 from rfl,Un];exact qcV (Nat.pow_lt_pow_right (by omega) h)
theorem Zk (x y:UInt64) (h:∀i,i<64→x.toNat.testBit i=y.toNat.testBit i):x=y:=by
 apply TK.1;apply Nat.eq_of_testBit_eq;intro i;rcases GN i 64 with hi | hi
 ·exact h i hi
 ·have hp:2 ^ 64≤2 ^ i:=Nat.pow_le_pow_right (by omega) hi;rw [Nat.testBit_lt_two_pow (bJ x.toNat_lt hp),Nat.testBit_lt_two_pow (bJ y.toNat_lt hp)]
theorem Cl.y8 (c:Cl) (q i:Nat) (hi:i<64):c.mem (64 * q+i)=(c.w q).toNat.testBit i:=by
 unfold Cl.mem;rw [show (64 * q+i) / 64=q by omega,show (64 * q+i) % 64=i by omega]
theorem Cl.ext_mem (c d:Cl) (h:∀i,i<256→c.mem i=d.mem i):c=d:=by
 have hw:∀q,q<4→c.w q=d.w q:=fun q hq=>Zk _ _ fun i hi=>by
  rw [← c.y8 q i hi,← d.y8 q i hi];exact h _ (by omega)
 have h0:=hw 0 (by omega);have h1:=hw 1 (by omega);have h2:=hw 2 (by omega);have h3:=hw 3 (by omega);cases c;cases d;simp only [Cl.w] at h0 h1 h2 h3;subst h0;subst h1;subst h2;subst h3;rfl
def Cl.setW (c:Cl) (q:Nat) (x:UInt64):Cl:=match q with | 0=>{c with a:=x} | 1=>{c with b:=x} | 2=>{c with c:=x} | _=>{c with d:=x}
theorem Cl.acm (c:Cl) (q p:Nat) (x:UInt64) (hq:q<4) (hp:p<4):(c.setW q x).w p=if p=q then x else c.w p:=by
 rcases (by omega:q=0∨q=1∨q=2∨q=3) with rfl | rfl | rfl | rfl<;>rcases (by omega:p=0∨p=1∨p=2∨p=3) with rfl | rfl | rfl | rfl<;>rfl
def Cl.add (c:Cl) (b:Nat):Cl:=c.setW (b / 64) (c.w (b / 64) ||| ((1:UInt64)<<<UInt64.ofNat (b % 64)))
theorem Cl.PU (c:Cl) (b i:Nat) (hb:b<256) (hi:i<256):(c.add b).mem i=(c.mem i || decide (i=b)):=by
 unfold Cl.add Cl.mem;rw [Cl.acm _ _ _ _ (by omega) (by omega)];by_cases h:i / 64=b / 64
 ·rw [if_pos h,UInt64.toNat_or,Z7 _ (Qv _ (by omega)),Nat.testBit_or,Nat.testBit_two_pow,h];congr 1;by_cases h2:i=b
  ·subst h2;simp
  ·rw [decide_eq_false h2,decide_eq_false (by omega)]
 ·rw [if_neg h,decide_eq_false (by intro e;subst e;exact h rfl),YT]
abbrev bV:Cl:=⟨0,0,0,0⟩
theorem nP (i:Nat):bV.mem i=false:=by
 unfold Cl.mem;have:∀q,bV.w q=0:=fun q=>by unfold Cl.w;split<;>rfl
 rw [this];exact Nat.zero_testBit _
def dV (p:Nat→Bool) (n:Nat):Cl:=(List.range n).foldl (fun c i=>if p i=true then c.add i else c) bV
theorem xK (p:Nat→Bool) (n:Nat):dV p (n+1)=if p n=true then (dV p n).add n else dV p n:=by
 unfold dV;rw [KR,Rl];rfl
theorem R7 (p:Nat→Bool) (n:Nat) (hn:n≤256) (i:Nat) (hi:i<256):(dV p n).mem i=(decide (i<n) && p i):=by
 induction n with
 | zero=>rw [show dV p 0=bV from rfl,nP];simp
 | succ n ih=>
  have ih:=ih (by omega);rw [xK];by_cases hp:p n=true
  ·rw [if_pos hp,Cl.PU _ _ _ (by omega) hi,ih];by_cases h:i=n
   ·subst h;simp [hp]
   ·have:decide (i<n+1)=decide (i<n):=decide_eq_decide.2 (by omega);rw [this];simp [h]
  ·rw [if_neg hp,ih];by_cases h:i=n
   ·subst h;simp [hp]
   ·have:decide (i<n+1)=decide (i<n):=decide_eq_decide.2 (by omega);rw [this]
def Cl.inter (a b:Cl):Cl:=⟨a.a &&& b.a,a.b &&& b.b,a.c &&& b.c,a.d &&& b.d⟩
theorem Af (a b:Cl) (i:Nat):(a.union b).mem i=(a.mem i || b.mem i):=by
 unfold Cl.mem;have:(a.union b).w (i / 64)=a.w (i / 64) ||| b.w (i / 64):=by unfold Cl.w;split<;>rfl
 rw [this,UInt64.toNat_or,Nat.testBit_or]
theorem Tw (a b:Cl) (i:Nat):(a.inter b).mem i=(a.mem i && b.mem i):=by
 unfold Cl.mem;have:(a.inter b).w (i / 64)=a.w (i / 64) &&& b.w (i / 64):=by unfold Cl.w;split<;>rfl
 rw [this,Qy,Nat.testBit_and]
theorem Qd (a b:Cl):dV (fun i=>a.mem i || b.mem i) 256=a.union b:=Cl.ext_mem _ _ fun i hi=>by
 rw [R7 _ _ (af _) _ hi,Af,decide_eq_true hi,Jq]
theorem DU (l:List Cl) (i:Nat):∀a:Cl,(l.foldl Cl.union a).mem i=(a.mem i || l.any fun c=>c.mem i):=by
 induction l with
 | nil=>intro a;simp
 | cons c l ih=>intro a;rw [qcF,ih,Af,List.any_cons,Bool.or_assoc]
def fU (l:List UInt8):Cl:=l.foldl (fun c b=>c.add b.toNat) bV
theorem Cc (l:List UInt8) (k:Nat) (h:k<l.length):fU (l.take (k+1))=(fU (l.take k)).add l[k].toNat:=by
 unfold fU;rw [Av h,Rl];rfl
def Cl.zip (f:UInt64→UInt64→UInt64) (x y:Cl):Cl:=⟨f x.a y.a,f x.b y.b,f x.c y.c,f x.d y.d⟩
theorem Uc (x:UInt64):bits .xor .u64 IntKind.u64.max (X x)=X (~~~x):=by
 unfold X;rw [show IntKind.u64.max=((18446744073709551615:Nat):Int) by decide,u64_xor_nat _ _ (by omega) (lI x)]
 have h:(18446744073709551615:UInt64) ^^^ x= ~~~x:=by
  apply UInt64.toBitVec_inj.1;rw [UInt64.toBitVec_xor,UInt64.toBitVec_not];exact BitVec.allOnes_xor
 rw [← h,UInt64.toNat_xor];rfl
theorem Ea (x y:UInt64):bits .andNot .u64 (X x) (X y)=X (x &&& ~~~y):=by
 unfold X;rw [u64_andNot_nat _ _ (lI x) (lI y),Qy,UInt64.toNat_not];rfl
theorem aez (w:World) (x y:UInt64):Calls Tryz.prog 145 #[.int .u64 (X x), .int .u64 (X y)] w fun e w'=>e= .returned (.int .u64 (X (~~~x)))∧w'=w:=by
 have h1:=qc x y;have h2:=Uc x;have h3:=Ea x y;go_enter Tryz.func145,Tryz.ntmps145;go_wp2;go_ret;exact ⟨rfl,rfl⟩
theorem aer (w:World) (x y:UInt64):Calls Tryz.prog 144 #[.int .u64 (X x), .int .u64 (X y)] w fun e w'=>e= .returned (.int .u64 (X (x &&& y)))∧w'=w:=by
 have h1:=qc x y;have h2:=Uc x;have h3:=Ea x y;go_enter Tryz.func144,Tryz.ntmps144;go_wp2;go_ret;exact ⟨rfl,rfl⟩
theorem VS (w:World) (x y:UInt64):Calls Tryz.prog 256 #[.int .u64 (X x), .int .u64 (X y)] w fun e w'=>e= .returned (.int .u64 (X (x &&& ~~~y)))∧w'=w:=by
 have h1:=qc x y;have h2:=Uc x;have h3:=Ea x y;go_enter Tryz.func256,Tryz.ntmps256;go_wp2;go_ret;exact ⟨rfl,rfl⟩
theorem xS (g:Nat) (hg:g=145∨g=144∨g=256) (f:UInt64→UInt64→UInt64)
  (hf:∀(w:World) (x y:UInt64),Calls Tryz.prog g #[.int .u64 (X x), .int .u64 (X y)] w fun e w'=>e= .returned (.int .u64 (X (f x y)))∧w'=w)
  (w:World) (x y:Cl):Calls Tryz.prog 94 #[.agg (au x), .agg (au y), .func (.func g) #[] #[]] w fun e w'=>e= .returned (.agg (au (Cl.zip f x y)))∧Below w.heap.size w w':=by
 go_enter Tryz.func94,Tryz.ntmps94;go_upto_region 2 with (fail)
 obtain ⟨W,hW,hB,hs,r0,r1,r2,r3⟩:∃W,((((w.alloc (.cells (au x) 65)).alloc (.cells (au y) 65)).alloc (.cells fJ 65)).alloc (.cells fJ 65))=W∧Below w.heap.size w W∧W.heap.size=w.heap.size+4∧W.heap[w.heap.size]?=some (.cells (au x) 65 (0,0))∧W.heap[w.heap.size+1]?=some (.cells (au y) 65 (0,0))∧W.heap[w.heap.size+1+1]?=some (.cells fJ 65 (0,0))∧W.heap[w.heap.size+1+1+1]?=some (.cells fJ 65 (0,0)):=by
  refine ⟨_,rfl,?_,by simp,?_,?_,?_,?_⟩
  ·exact ah (ah (ah (ah (ak _ _) (af _) _) (af _) _) (af _) _) (af _) _
  all_goals repeat (first | (refine dA _ _ _ ?_;(simp;done)) | (refine (o5 _ _ _ ?_).trans ?_;·(simp<;>omega)))
 rw [hW];clear hW;replace r0:Row oV W w.heap.size 65 (aG x):=r0;replace r1:Row oV W (w.heap.size+1) 65 (aG y):=r1;replace r2:Row oV W (w.heap.size+1+1) 65 [ow 0,ow 0,ow 0,ow 0]:=r2;replace r3:Row oV W (w.heap.size+1+1+1) 65 [ow 0,ow 0,ow 0,ow 0]:=r3;have hs':w.heap.size+4≤W.heap.size:=Iz hs.symm;clear hs;go_wp2_with fail;refine wp_loop_rounds 5 ?_;refine aj (n:=4) ?_;go_upto_region 5 with (fail);have ha:∀X,Below W.heap.size W X→X.cell? ⟨w.heap.size,0,none⟩=some (.int .u64 (Go.Proofs.YtncnfncglacheaaGreatDoor.X x.a)):=fun X h=>by rw [(r0.below h r0.lt).cell?];rfl
 have hb:∀X,Below W.heap.size W X→X.cell? ⟨w.heap.size+1,0,none⟩=some (.int .u64 (Go.Proofs.YtncnfncglacheaaGreatDoor.X y.a)):=fun X h=>by rw [(r1.below h r1.lt).cell?];rfl
 refine aC (S:=fun X=>Below W.heap.size W X) 9 rfl (by kernel_rfl) (ak _ _).drew fun hS=> ?_;refine tk 0 12 (.int .i64 0) hS ?_;refine tk 1 13 (.func (.func g) #[] #[]) hS ?_;refine tk 2 14 (.int .i64 0) hS ?_;refine tk 3 15 (.pointer (some ⟨w.heap.size,0,none⟩)) hS ?_;refine tk 4 16 (.int .u64 (X x.a)) hS ?_ rfl (qi fun W' h=>by have q0:=ha W' h;have q1:=hb W' h;go_simp);refine tk 5 17 (.int .i64 0) hS ?_;refine tk 6 18 (.pointer (some ⟨w.heap.size+1,0,none⟩)) hS ?_;refine tk 7 19 (.int .u64 (X y.a)) hS ?_ rfl (qi fun W' h=>by have q0:=ha W' h;have q1:=hb W' h;go_simp);refine iT 8 (fun K' hK=> ?_);refine Eh (d:=20) (g:=g) (args:= #[.int .u64 (X x.a), .int .u64 (X y.a)]) rfl rfl (by rcases hg with rfl | rfl | rfl<;>first | kernel_rfl | (simp [execOp,resolve,invoke,Act.eval]) | go_simp) ?_;refine (hf _ x.a y.a).mono ?_;rintro e Wa ⟨rfl,rfl⟩;refine ⟨_,rfl,hK.out _ _ hS fun _=> ?_⟩;clear hK ha hb;simp only [sA,sB,sC];refine aL (by kernel_rfl) ?_;simp only [List.drop];replace r0:=r0.drew;replace r1:=r1.drew;replace r2:=r2.drew;replace r3:=r3.drew;replace hB:=hB.drew;replace hs':w.heap.size+4≤W.drew.heap.size:=hs';clear hS;generalize W.drew=Y at *;have e3:Y.cell? ⟨w.heap.size+1+1+1,0,none⟩=some (.int .u64 0):=by rw [r3.cell?];rfl
 have f3:=r3.frozen 0;go_wp2_with fail;replace r3:Row oV (Y.setCell ⟨w.heap.size+1+1+1,0,none⟩ (.int .u64 (X (f x.a y.a)))) (w.heap.size+1+1+1) 65 [ow (X (f x.a y.a)),ow 0,ow 0,ow 0]:=r3.set 0 (ow (X (f x.a y.a)));replace r0:=r0.ai (b':=w.heap.size+1+1+1) (by omega) 0 (.int .u64 (X (f x.a y.a)));replace r1:=r1.ai (b':=w.heap.size+1+1+1) (by omega) 0 (.int .u64 (X (f x.a y.a)));replace r2:=r2.ai (b':=w.heap.size+1+1+1) (by omega) 0 (.int .u64 (X (f x.a y.a)));replace hB:=aM hB (b:=w.heap.size+1+1+1) 0 (by omega) (.int .u64 (X (f x.a y.a)));replace hs':w.heap.size+4≤(Y.setCell ⟨w.heap.size+1+1+1,0,none⟩ (.int .u64 (X (f x.a y.a)))).heap.size:=by simpa using hs'
 clear e3 f3;generalize (Y.setCell ⟨w.heap.size+1+1+1,0,none⟩ (.int .u64 (X (f x.a y.a))))=W at *;refine aj (n:=3) ?_;go_upto_region 5 with (fail);have ha:∀X,Below W.heap.size W X→X.cell? ⟨w.heap.size,1,none⟩=some (.int .u64 (Go.Proofs.YtncnfncglacheaaGreatDoor.X x.b)):=fun X h=>by rw [(r0.below h r0.lt).cell?];rfl
 have hb:∀X,Below W.heap.size W X→X.cell? ⟨w.heap.size+1,1,none⟩=some (.int .u64 (Go.Proofs.YtncnfncglacheaaGreatDoor.X y.b)):=fun X h=>by rw [(r1.below h r1.lt).cell?];rfl
 refine aC (S:=fun X=>Below W.heap.size W X) 9 rfl (by kernel_rfl) (ak _ _).drew fun hS=> ?_;refine tk 0 12 (.int .i64 1) hS ?_;refine tk 1 13 (.func (.func g) #[] #[]) hS ?_;refine tk 2 14 (.int .i64 1) hS ?_;refine tk 3 15 (.pointer (some ⟨w.heap.size,1,none⟩)) hS ?_;refine tk 4 16 (.int .u64 (X x.b)) hS ?_ rfl (qi fun W' h=>by have q0:=ha W' h;have q1:=hb W' h;go_simp);refine tk 5 17 (.int .i64 1) hS ?_;refine tk 6 18 (.pointer (some ⟨w.heap.size+1,1,none⟩)) hS ?_;refine tk 7 19 (.int .u64 (X y.b)) hS ?_ rfl (qi fun W' h=>by have q0:=ha W' h;have q1:=hb W' h;go_simp);refine iT 8 (fun K' hK=> ?_);refine Eh (d:=20) (g:=g) (args:= #[.int .u64 (X x.b), .int .u64 (X y.b)]) rfl rfl (by rcases hg with rfl | rfl | rfl<;>first | kernel_rfl | (simp [execOp,resolve,invoke,Act.eval]) | go_simp) ?_;refine (hf _ x.b y.b).mono ?_;rintro e Wa ⟨rfl,rfl⟩;refine ⟨_,rfl,hK.out _ _ hS fun _=> ?_⟩;clear hK ha hb;simp only [sA,sB,sC];refine aL (by kernel_rfl) ?_;simp only [List.drop];replace r0:=r0.drew;replace r1:=r1.drew;replace r2:=r2.drew;replace r3:=r3.drew;replace hB:=hB.drew;replace hs':w.heap.size+4≤W.drew.heap.size:=hs';clear hS;generalize W.drew=Y at *;have e3:Y.cell? ⟨w.heap.size+1+1+1,1,none⟩=some (.int .u64 0):=by rw [r3.cell?];rfl
 have f3:=r3.frozen 1;go_wp2_with fail;replace r3:Row oV (Y.setCell ⟨w.heap.size+1+1+1,1,none⟩ (.int .u64 (X (f x.b y.b)))) (w.heap.size+1+1+1) 65 [ow (X (f x.a y.a)),ow (X (f x.b y.b)),ow 0,ow 0]:=r3.set 1 (ow (X (f x.b y.b)));replace r0:=r0.ai (b':=w.heap.size+1+1+1) (by omega) 1 (.int .u64 (X (f x.b y.b)));replace r1:=r1.ai (b':=w.heap.size+1+1+1) (by omega) 1 (.int .u64 (X (f x.b y.b)));replace r2:=r2.ai (b':=w.heap.size+1+1+1) (by omega) 1 (.int .u64 (X (f x.b y.b)));replace hB:=aM hB (b:=w.heap.size+1+1+1) 1 (by omega) (.int .u64 (X (f x.b y.b)));replace hs':w.heap.size+4≤(Y.setCell ⟨w.heap.size+1+1+1,1,none⟩ (.int .u64 (X (f x.b y.b)))).heap.size:=by simpa using hs'
 clear e3 f3;generalize (Y.setCell ⟨w.heap.size+1+1+1,1,none⟩ (.int .u64 (X (f x.b y.b))))=W at *;refine aj (n:=2) ?_;go_upto_region 5 with (fail);have ha:∀X,Below W.heap.size W X→X.cell? ⟨w.heap.size,2,none⟩=some (.int .u64 (Go.Proofs.YtncnfncglacheaaGreatDoor.X x.c)):=fun X h=>by rw [(r0.below h r0.lt).cell?];rfl
 have hb:∀X,Below W.heap.size W X→X.cell? ⟨w.heap.size+1,2,none⟩=some (.int .u64 (Go.Proofs.YtncnfncglacheaaGreatDoor.X y.c)):=fun X h=>by rw [(r1.below h r1.lt).cell?];rfl
 refine aC (S:=fun X=>Below W.heap.size W X) 9 rfl (by kernel_rfl) (ak _ _).drew fun hS=> ?_;refine tk 0 12 (.int .i64 2) hS ?_;refine tk 1 13 (.func (.func g) #[] #[]) hS ?_;refine tk 2 14 (.int .i64 2) hS ?_;refine tk 3 15 (.pointer (some ⟨w.heap.size,2,none⟩)) hS ?_;refine tk 4 16 (.int .u64 (X x.c)) hS ?_ rfl (qi fun W' h=>by have q0:=ha W' h;have q1:=hb W' h;go_simp);refine tk 5 17 (.int .i64 2) hS ?_;refine tk 6 18 (.pointer (some ⟨w.heap.size+1,2,none⟩)) hS ?_;refine tk 7 19 (.int .u64 (X y.c)) hS ?_ rfl (qi fun W' h=>by have q0:=ha W' h;have q1:=hb W' h;go_simp);refine iT 8 (fun K' hK=> ?_);refine Eh (d:=20) (g:=g) (args:= #[.int .u64 (X x.c), .int .u64 (X y.c)]) rfl rfl (by rcases hg with rfl | rfl | rfl<;>first | kernel_rfl | (simp [execOp,resolve,invoke,Act.eval]) | go_simp) ?_;refine (hf _ x.c y.c).mono ?_;rintro e Wa ⟨rfl,rfl⟩;refine ⟨_,rfl,hK.out _ _ hS fun _=> ?_⟩;clear hK ha hb;simp only [sA,sB,sC];refine aL (by kernel_rfl) ?_;simp only [List.drop];replace r0:=r0.drew;replace r1:=r1.drew;replace r2:=r2.drew;replace r3:=r3.drew;replace hB:=hB.drew;replace hs':w.heap.size+4≤W.drew.heap.size:=hs';clear hS;generalize W.drew=Y at *;have e3:Y.cell? ⟨w.heap.size+1+1+1,2,none⟩=some (.int .u64 0):=by rw [r3.cell?];rfl
 have f3:=r3.frozen 2;go_wp2_with fail;replace r3:Row oV (Y.setCell ⟨w.heap.size+1+1+1,2,none⟩ (.int .u64 (X (f x.c y.c)))) (w.heap.size+1+1+1) 65 [ow (X (f x.a y.a)),ow (X (f x.b y.b)),ow (X (f x.c y.c)),ow 0]:=r3.set 2 (ow (X (f x.c y.c)));replace r0:=r0.ai (b':=w.heap.size+1+1+1) (by omega) 2 (.int .u64 (X (f x.c y.c)));replace r1:=r1.ai (b':=w.heap.size+1+1+1) (by omega) 2 (.int .u64 (X (f x.c y.c)));replace r2:=r2.ai (b':=w.heap.size+1+1+1) (by omega) 2 (.int .u64 (X (f x.c y.c)));replace hB:=aM hB (b:=w.heap.size+1+1+1) 2 (by omega) (.int .u64 (X (f x.c y.c)));replace hs':w.heap.size+4≤(Y.setCell ⟨w.heap.size+1+1+1,2,none⟩ (.int .u64 (X (f x.c y.c)))).heap.size:=by simpa using hs'
 clear e3 f3;generalize (Y.setCell ⟨w.heap.size+1+1+1,2,none⟩ (.int .u64 (X (f x.c y.c))))=W at *;refine aj (n:=1) ?_;go_upto_region 5 with (fail);have ha:∀X,Below W.heap.size W X→X.cell? ⟨w.heap.size,3,none⟩=some (.int .u64 (Go.Proofs.YtncnfncglacheaaGreatDoor.X x.d)):=fun X h=>by rw [(r0.below h r0.lt).cell?];rfl
 have hb:∀X,Below W.heap.size W X→X.cell? ⟨w.heap.size+1,3,none⟩=some (.int .u64 (Go.Proofs.YtncnfncglacheaaGreatDoor.X y.d)):=fun X h=>by rw [(r1.below h r1.lt).cell?];rfl
 refine aC (S:=fun X=>Below W.heap.size W X) 9 rfl (by kernel_rfl) (ak _ _).drew fun hS=> ?_;refine tk 0 12 (.int .i64 3) hS ?_;refine tk 1 13 (.func (.func g) #[] #[]) hS ?_;refine tk 2 14 (.int .i64 3) hS ?_;refine tk 3 15 (.pointer (some ⟨w.heap.size,3,none⟩)) hS ?_;refine tk 4 16 (.int .u64 (X x.d)) hS ?_ rfl (qi fun W' h=>by have q0:=ha W' h;have q1:=hb W' h;go_simp);refine tk 5 17 (.int .i64 3) hS ?_;refine tk 6 18 (.pointer (some ⟨w.heap.size+1,3,none⟩)) hS ?_;refine tk 7 19 (.int .u64 (X y.d)) hS ?_ rfl (qi fun W' h=>by have q0:=ha W' h;have q1:=hb W' h;go_simp);refine iT 8 (fun K' hK=> ?_);refine Eh (d:=20) (g:=g) (args:= #[.int .u64 (X x.d), .int .u64 (X y.d)]) rfl rfl (by rcases hg with rfl | rfl | rfl<;>first | kernel_rfl | (simp [execOp,resolve,invoke,Act.eval]) | go_simp) ?_;refine (hf _ x.d y.d).mono ?_;rintro e Wa ⟨rfl,rfl⟩;refine ⟨_,rfl,hK.out _ _ hS fun _=> ?_⟩;clear hK ha hb;simp only [sA,sB,sC];refine aL (by kernel_rfl) ?_;simp only [List.drop];replace r0:=r0.drew;replace r1:=r1.drew;replace r2:=r2.drew;replace r3:=r3.drew;replace hB:=hB.drew;replace hs':w.heap.size+4≤W.drew.heap.size:=hs';clear hS;generalize W.drew=Y at *;have e3:Y.cell? ⟨w.heap.size+1+1+1,3,none⟩=some (.int .u64 0):=by rw [r3.cell?];rfl
 have f3:=r3.frozen 3;go_wp2_with fail;replace r3:Row oV (Y.setCell ⟨w.heap.size+1+1+1,3,none⟩ (.int .u64 (X (f x.d y.d)))) (w.heap.size+1+1+1) 65 [ow (X (f x.a y.a)),ow (X (f x.b y.b)),ow (X (f x.c y.c)),ow (X (f x.d y.d))]:=r3.set 3 (ow (X (f x.d y.d)));replace r0:=r0.ai (b':=w.heap.size+1+1+1) (by omega) 3 (.int .u64 (X (f x.d y.d)));replace r1:=r1.ai (b':=w.heap.size+1+1+1) (by omega) 3 (.int .u64 (X (f x.d y.d)));replace r2:=r2.ai (b':=w.heap.size+1+1+1) (by omega) 3 (.int .u64 (X (f x.d y.d)));replace hB:=aM hB (b:=w.heap.size+1+1+1) 3 (by omega) (.int .u64 (X (f x.d y.d)));replace hs':w.heap.size+4≤(Y.setCell ⟨w.heap.size+1+1+1,3,none⟩ (.int .u64 (X (f x.d y.d)))).heap.size:=by simpa using hs'
 clear e3 f3;generalize (Y.setCell ⟨w.heap.size+1+1+1,3,none⟩ (.int .u64 (X (f x.d y.d))))=W at *;refine aj (n:=0) ?_
 go_wp2_with (first
  | ((with_reducible refine zL (Row.at r3) ay rfl (C:=au (Cl.zip f x y)) ?_))
  | ((with_reducible refine zS (l':=aG (Cl.zip f x y)) r2 ay ?_);(intro W6 hs6 di fO)))
 refine bodyPost_ret (aQ (f:=oV) (l:=aG (Cl.zip f x y)) rfl _ ay (w.heap.size+1+1) 0 rfl hs6.at) rfl ?_;exact ⟨rfl,hB.grown di hB.size (fun k e=>by cases e;omega)⟩
theorem Qq (w:World) (x y:Cl):Calls Tryz.prog 102 #[.agg (au x), .agg (au y)] w fun e w'=>e= .returned (.agg (au (Cl.zip (fun x y=>x &&& y) x y)))∧Below w.heap.size w w':=by
 go_enter Tryz.func102,Tryz.ntmps102;go_upto_region 1 with (fail)
 obtain ⟨W,hW,hB,hs,r0,r1,r2⟩:∃W,(((w.alloc (.cells (au x) 65)).alloc (.cells (au y) 65)).alloc (.cells fJ 65))=W∧Below w.heap.size w W∧W.heap.size=w.heap.size+3∧W.heap[w.heap.size]?=some (.cells (au x) 65 (0,0))∧W.heap[w.heap.size+1]?=some (.cells (au y) 65 (0,0))∧W.heap[w.heap.size+1+1]?=some (.cells fJ 65 (0,0)):=by
  refine ⟨_,rfl,?_,by simp,?_,?_,?_⟩
  ·exact ah (ah (ah (ak _ _) (af _) _) (af _) _) (af _) _
  all_goals repeat (first | (refine dA _ _ _ ?_;(simp;done)) | (refine (o5 _ _ _ ?_).trans ?_;·(simp<;>omega)))
 rw [hW];clear hW;replace r0:Row oV W w.heap.size 65 (aG x):=r0;replace r1:Row oV W (w.heap.size+1) 65 (aG y):=r1;replace r2:Row oV W (w.heap.size+1+1) 65 [ow 0,ow 0,ow 0,ow 0]:=r2;have hs':w.heap.size+3≤W.heap.size:=Iz hs.symm;clear hs
 go_wp2_with (first
  | ((with_reducible refine zL r0.at ay rfl (C:=au x) ?_))
  | ((with_reducible refine zL r1.at ay rfl (C:=au y) ?_)))
 refine (xS _ (by decide) (fun x y=>x &&& y) aer W x y).mono ?_;rintro e W2 ⟨rfl,hB2⟩;replace r2:=r2.below hB2 r2.lt;replace hB:=hB.trans (hB2.mono hB.size)
 go_wp2_with (first
  | ((with_reducible refine zS (l':=aG (Cl.zip (fun x y=>x &&& y) x y)) r2 ay ?_);(intro W6 hs6 di fO)))
 refine bodyPost_ret (aQ (f:=oV) (l:=aG (Cl.zip (fun x y=>x &&& y) x y)) rfl _ ay (w.heap.size+1+1) 0 rfl hs6.at) rfl ?_;exact ⟨rfl,hB.grown di hB.size (fun k e=>by cases e;omega)⟩
theorem aaw (w:World) (x y:Cl):Calls Tryz.prog 224 #[.agg (au x), .agg (au y)] w fun e w'=>e= .returned (.agg (au (Cl.zip (fun x y=>x &&& ~~~y) x y)))∧Below w.heap.size w w':=by
 go_enter Tryz.func224,Tryz.ntmps224;go_upto_region 1 with (fail)
 obtain ⟨W,hW,hB,hs,r0,r1,r2⟩:∃W,(((w.alloc (.cells (au x) 65)).alloc (.cells (au y) 65)).alloc (.cells fJ 65))=W∧Below w.heap.size w W∧W.heap.size=w.heap.size+3∧W.heap[w.heap.size]?=some (.cells (au x) 65 (0,0))∧W.heap[w.heap.size+1]?=some (.cells (au y) 65 (0,0))∧W.heap[w.heap.size+1+1]?=some (.cells fJ 65 (0,0)):=by
  refine ⟨_,rfl,?_,by simp,?_,?_,?_⟩
  ·exact ah (ah (ah (ak _ _) (af _) _) (af _) _) (af _) _
  all_goals repeat (first | (refine dA _ _ _ ?_;(simp;done)) | (refine (o5 _ _ _ ?_).trans ?_;·(simp<;>omega)))
 rw [hW];clear hW;replace r0:Row oV W w.heap.size 65 (aG x):=r0;replace r1:Row oV W (w.heap.size+1) 65 (aG y):=r1;replace r2:Row oV W (w.heap.size+1+1) 65 [ow 0,ow 0,ow 0,ow 0]:=r2;have hs':w.heap.size+3≤W.heap.size:=Iz hs.symm;clear hs
 go_wp2_with (first
  | ((with_reducible refine zL r0.at ay rfl (C:=au x) ?_))
  | ((with_reducible refine zL r1.at ay rfl (C:=au y) ?_)))
 refine (xS _ (by decide) (fun x y=>x &&& ~~~y) VS W x y).mono ?_;rintro e W2 ⟨rfl,hB2⟩;replace r2:=r2.below hB2 r2.lt;replace hB:=hB.trans (hB2.mono hB.size)
 go_wp2_with (first
  | ((with_reducible refine zS (l':=aG (Cl.zip (fun x y=>x &&& ~~~y) x y)) r2 ay ?_);(intro W6 hs6 di fO)))
 refine bodyPost_ret (aQ (f:=oV) (l:=aG (Cl.zip (fun x y=>x &&& ~~~y) x y)) rfl _ ay (w.heap.size+1+1) 0 rfl hs6.at) rfl ?_;exact ⟨rfl,hB.grown di hB.size (fun k e=>by cases e;omega)⟩
theorem aaC (w:World) (x:Cl):Calls Tryz.prog 105 #[.agg (au x)] w fun e w'=>e= .returned (.agg (au (Cl.zip (fun x _=> ~~~x) x x)))∧Below w.heap.size w w':=by
 go_enter Tryz.func105,Tryz.ntmps105;go_upto_region 1 with (fail)
 obtain ⟨W,hW,hB,hs,r0,r2⟩:∃W,((w.alloc (.cells (au x) 65)).alloc (.cells fJ 65))=W∧Below w.heap.size w W∧W.heap.size=w.heap.size+2∧W.heap[w.heap.size]?=some (.cells (au x) 65 (0,0))∧W.heap[w.heap.size+1]?=some (.cells fJ 65 (0,0)):=by
  refine ⟨_,rfl,?_,by simp,?_,?_⟩
  ·exact ah (ah (ak _ _) (af _) _) (af _) _
  all_goals repeat (first | (refine dA _ _ _ ?_;(simp;done)) | (refine (o5 _ _ _ ?_).trans ?_;·(simp<;>omega)))
 rw [hW];clear hW;replace r0:Row oV W w.heap.size 65 (aG x):=r0;replace r2:Row oV W (w.heap.size+1) 65 [ow 0,ow 0,ow 0,ow 0]:=r2;have hs':w.heap.size+2≤W.heap.size:=Iz hs.symm;clear hs;go_wp2_with ((with_reducible refine zL r0.at ay rfl (C:=au x) ?_));refine (xS _ (by decide) (fun x _=> ~~~x) aez W x x).mono ?_;rintro e W2 ⟨rfl,hB2⟩;replace r2:=r2.below hB2 r2.lt;replace hB:=hB.trans (hB2.mono hB.size);go_wp2_with ((with_reducible refine zS (l':=aG (Cl.zip (fun x _=> ~~~x) x x)) r2 ay ?_);(intro W6 hs6 di fO));refine bodyPost_ret (aQ (f:=oV) (l:=aG (Cl.zip (fun x _=> ~~~x) x x)) rfl _ ay (w.heap.size+1) 0 rfl hs6.at) rfl ?_;exact ⟨rfl,hB.grown di hB.size (fun k e=>by cases e;omega)⟩
theorem Td (x y:Cl):Cl.zip (fun x y=>x &&& y) x y=x.inter y:=rfl
def Cl.non (x:Cl):Cl:=⟨~~~x.a,~~~x.b,~~~x.c,~~~x.d⟩
end
section
open Go.RowKit Mem
theorem Mem.bD {α:Type} {f:α→Value} {w:World} {l:List α} {P:Program} {fn:Func} {p t:Tmp} {ty:TypeId} (h:fn.results= #[.cell p ty, .tmp t]) (tmps:Array Value) (T:bR P ty l.length) (b off:Nat) (hp:tmps.getD p undef= .pointer (some ⟨b,off,none⟩)) (hat:At f w b off l):
  (results fn tmps).run P w= .ok (.tuple #[.agg (l.map f).toArray,tmps.getD t undef]) w:=by
 have hp':tmps[p]?.getD undef= .pointer (some ⟨b,off,none⟩):=by simpa using hp
 simp [results,h,hp',asAddr,iP T hat]
end
section
open Go Go.RowKit Mem
structure DF where
 cls:List Cl
 nx:List (List Nat)
 ac:List Bool
structure TB where
 cell:List Nat
 cells:Nat
 nx:List (List Nat)
 ac:List Bool
theorem dz {α β:Type} (f:β→α→β) (a:β) (l:List α) (k:Nat) (h:k<l.length):(l.take (k+1)).foldl f a=f ((l.take k).foldl f a) l[k]:=by
 rw [Av h,Rl];rfl
theorem Bd:∀(l m:List Nat),l.Nodup→(∀x∈l,x∈m)→l.length≤m.length
 | [],_,_,_=>LC _
 | a::l,m,hn,hs=>by
  obtain ⟨h1,h2⟩:=List.nodup_cons.1 hn;have ha:a∈m:=hs a (by simp);have:=Bd l (m.erase a) h2 fun x hx=>(List.mem_erase_of_ne (fun e:x=a=>h1 (by rw [← e];exact hx))).2 (hs x (by simp [hx]));rw [qcL ha] at this;have:=qcT ha;simp only [mO];omega
theorem R6 (n:Nat) (l:List Nat) (hn:l.Nodup) (hb:∀x∈l,x<n):l.length≤n:=by
 have:=Bd l (List.range n) hn fun x hx=>LD.2 (hb x hx)
 rwa [List.length_range] at this
theorem aK {α:Type} (l:List α) (i:Nat) (d:α) (h:i<l.length):l.getD i d∈l:=by
 rw [dJ,bK h];exact oO h
def Vt (c:Cl):List Nat:=(List.range 256).filter c.mem
def jZ (i:Nat) (bs cell:List Nat):List Nat:=bs.foldl (fun s b=>s.set b i) cell
def kI (cls:List Cl):Nat→List Nat
 | 0=>List.replicate 256 0
 | k+1=>jZ k (Vt (cls.getD k bV)) (kI cls k)
def bP (D:DF):TB:=⟨kI D.cls D.cls.length,D.cls.length,D.nx,D.ac⟩
structure DF.Ok (D:DF):Prop where
 c1:1≤D.cls.length
 lY:D.cls.length≤256
 n1:1≤D.nx.length
 nn:D.nx.length≤65535
 ac:D.ac.length=D.nx.length
 rw:∀r∈D.nx,r.length=D.cls.length
 rb:∀r∈D.nx,∀t∈r,t<D.nx.length
structure TB.Ok (T:TB):Prop where
 cl:T.cell.length=256
 lY:T.cells≤256
 cb:∀x∈T.cell,x<T.cells
 n1:1≤T.nx.length
 nn:T.nx.length≤65535
 ac:T.ac.length=T.nx.length
 rw:∀r∈T.nx,r.length=T.cells
 rb:∀r∈T.nx,∀t∈r,t<T.nx.length
theorem abU (c:Cl):∀b∈Vt c,b<256:=fun b hb=>LD.1 (qcG.1 hb).1
theorem rW (i:Nat):∀(bs cell:List Nat),(jZ i bs cell).length=cell.length
 | [],_=>rfl
 | b::bs,cell=>by
  show (jZ i bs (cell.set b i)).length=_;rw [rW i bs,qz]
theorem zX (i n:Nat) (hi:i<n):∀(bs cell:List Nat),(∀x∈cell,x<n)→∀x∈jZ i bs cell,x<n
 | [],_,h=>h
 | b::bs,cell,h=>by
  refine zX i n hi bs (cell.set b i) fun x hx=> ?_;rcases Px hx with h' | rfl
  ·exact h x h'
  ·exact hi
theorem jE (cls:List Cl):∀k,(kI cls k).length=256
 | 0=>by simp [kI]
 | k+1=>by rw [kI,rW,jE cls k]
theorem Bo (cls:List Cl) (n:Nat) (h1:1≤n):∀k,k≤n→∀x∈kI cls k,x<n
 | 0,_=>fun x hx=>by rw [(Wu.1 hx).2];omega
 | k+1,h=>zX k n (by omega) _ _ (Bo cls n h1 k (by omega))
theorem jD {D:DF} (h:D.Ok):(bP D).Ok:=
 ⟨jE _ _,h.lY,Bo _ _ h.c1 _ (af _),h.n1,h.nn,h.ac,h.rw,h.rb⟩
def addN (l:List Nat) (t:Nat):List Nat:=if t∈l then l else l++[t]
def nK (l row:List Nat):List Nat:=row.foldl addN l
def lH (nx:List (List Nat)):Nat→Nat→List Nat→List Nat
 | 0,_,l=>l
 | f+1,i,l=>if i<l.length then lH nx f (i+1) (nK l (nx.getD (l.getD i 0) [])) else l
def TB.reach (T:TB):List Nat:=lH T.nx T.nx.length 0 [0]
structure mo (n:Nat) (l:List Nat):Prop where
 nd:l.Nodup
 lt:∀x∈l,x<n
 ne:1≤l.length
theorem mo.len {n:Nat} {l:List Nat} (h:mo n l):l.length≤n:=R6 n l h.nd h.lt
theorem mo.add {n:Nat} {l:List Nat} (h:mo n l) {t:Nat} (ht:t<n):mo n (addN l t):=by
 unfold addN;split
 ·exact h
 ·rename_i hm;refine ⟨qcR.2 ⟨h.nd,by simp,fun a ha b hb e=>hm (by rw [← jN.1 hb,← e];exact ha)⟩,fun x hx=> ?_,by simp⟩;rcases pO.1 hx with h' | h'
  ·exact h.lt x h'
  ·rw [jN.1 h'];exact ht
theorem mo.nK {n:Nat}:∀(row:List Nat) {l:List Nat},mo n l→(∀t∈row,t<n)→mo n (nK l row)
 | [],_,h,_=>h
 | t::row,l,h,hr=>mo.nK row (h.add (hr t (by simp))) fun t ht=>hr t (by simp [ht])
theorem VL (row:List Nat):∀l:List Nat,l.length≤(Go.Proofs.YtncnfncglacheaaGreatDoor.nK l row).length:=by
 induction row with
 | nil=>intro l;exact af _
 | cons t row ih=>
  intro l;refine aJ ?_ (ih (addN l t));unfold addN;split<;>simp
theorem mo.one {n:Nat} (h:1≤n):mo n [0]:=⟨by simp,by simp;omega,by simp⟩
theorem tu {nx:List (List Nat)} {n:Nat} (hr:∀r∈nx,∀t∈r,t<n) (i:Nat):∀t∈nx.getD i [],t<n:=by
 by_cases h:i<nx.length
 ·exact hr _ (aK nx i [] h)
 ·rw [dJ,qJ (by omega)];simp
theorem Jw {nx:List (List Nat)} {n:Nat} (hr:∀r∈nx,∀t∈r,t<n):∀(f i:Nat) (l:List Nat),mo n l→mo n (lH nx f i l)
 | 0,_,_,h=>h
 | f+1,i,l,h=>by
  unfold lH;split
  ·exact Jw hr f _ _ (mo.nK _ h (tu hr _))
  ·exact h
theorem TB.Ok.reach {T:TB} (h:T.Ok):mo T.nx.length T.reach:=Jw h.rb _ _ _ (.one h.n1)
theorem QV (nx:List (List Nat)) (f i:Nat) (l:List Nat) (h:l.length≤i):lH nx f i l=l:=by
 cases f with
 | zero=>rfl
 | succ f=>rw [lH,if_neg (by omega)]
theorem NW (nx:List (List Nat)) (n i:Nat) (l:List Nat) (h:i<l.length) (hn:l.length≤n):lH nx (n - i) i l=lH nx (n - (i+1)) (i+1) (nK l (nx.getD (l.getD i 0) [])):=by
 rw [show n - i=(n - (i+1))+1 by omega,lH,if_pos h]
def qB (nx:List (List Nat)) (bl:List Nat) (s:Nat):List Nat:=bl.getD s 0::(nx.getD s []).map fun t=>bl.getD t 0
structure RS where
 ks:List (List Nat)
 rs:List Nat
 bU:List Nat
def wX (nx:List (List Nat)) (bl:List Nat) (st:RS) (s:Nat):RS:=
 if qB nx bl s∈st.ks then {st with bU:=st.bU.set s (st.ks.idxOf (qB nx bl s))} else ⟨st.ks++[qB nx bl s],st.rs++[s],st.bU.set s st.ks.length⟩
def GX (n:Nat):RS:=⟨[],[],List.replicate n 0⟩
def lU (nx:List (List Nat)) (bl:List Nat) (n:Nat) (l:List Nat):RS:=l.foldl (wX nx bl) (GX n)
def uX (nx:List (List Nat)) (n:Nat) (l:List Nat):Nat→List Nat→Nat→List Nat×List Nat
 | 0,bl,_=>(bl,[])
 | f+1,bl,c=>if (lU nx bl n l).rs.length=c then ((lU nx bl n l).bU,(lU nx bl n l).rs) else uX nx n l f (lU nx bl n l).bU (lU nx bl n l).rs.length
def nT (ac:List Bool) (b:List Nat) (s:Nat):List Nat:=if ac.getD s false=true then b.set s 1 else b
def q8 (ac:List Bool) (n:Nat) (l:List Nat):List Nat:=l.foldl (nT ac) (List.replicate n 0)
def TB.refine (T:TB) (l:List Nat):List Nat×List Nat:=uX T.nx T.nx.length l (l.length+1) (q8 T.ac T.nx.length l) 0
structure RS.Ok (nx:List (List Nat)) (bl:List Nat) (n:Nat) (l:List Nat) (st:RS):Prop where
 len:st.rs.length=st.ks.length
 le:st.rs.length≤l.length
 nl:st.bU.length=n
 nb:∀x∈st.bU,x<max st.ks.length 1
 mem:∀x∈st.rs,x∈l
 has:∀s∈l,qB nx bl s∈st.ks
 hit:∀i,i<st.rs.length→∃s∈l,st.bU.getD s 0=i
theorem acF (nx:List (List Nat)) (bl:List Nat) (n:Nat):(GX n).Ok nx bl n []:=
 ⟨rfl,af _,by simp [GX],fun x hx=>by rw [(Wu.1 hx).2];show 0<max 0 1;omega,by simp [GX],by simp,fun i hi=>by simp [GX] at hi⟩
theorem gL {α:Type} (l:List α) (i j:Nat) (x d:α) (hi:i<l.length):(l.set i x).getD j d=if i=j then x else l.getD j d:=by
 rw [dJ,Lb];by_cases h:i=j
 ·subst h;rw [if_pos rfl,if_pos hi,if_pos rfl];rfl
 ·rw [if_neg h,if_neg h,dJ]
theorem YN {nx:List (List Nat)} {bl:List Nat} {n:Nat} {l:List Nat} {st:RS} (h:st.Ok nx bl n l) {s:Nat} (hs:s<n) (hsl:s∉l):(wX nx bl st s).Ok nx bl n (l++[s]):=by
 have hsn:s<st.bU.length:=by rw [h.nl];exact hs
 unfold wX;split
 ·rename_i hm;have hid:=qb5 hm;refine ⟨h.len,by rw [eH];have:=h.le;show st.rs.length≤_;omega,by rw [qz];exact h.nl,fun x hx=> ?_,fun x hx=>Ti _ (h.mem x hx),fun x hx=> ?_,fun i hi=> ?_⟩
  ·rcases Px hx with h' | rfl
   ·exact h.nb x h'
   ·show _<max st.ks.length 1;omega
  ·rcases pO.1 hx with h' | h'
   ·exact h.has x h'
   ·rw [jN.1 h'];exact hm
  ·obtain ⟨t,ht,e⟩:=h.hit i hi;exact ⟨t,Ti _ ht,by rw [gL _ _ _ _ _ hsn,if_neg (fun e':s=t=>hsl (by rw [e'];exact ht))];exact e⟩
 ·rename_i hm;refine ⟨by simp [h.len],by simp only [eH,Az];have:=h.le;omega,by rw [qz];exact h.nl,fun x hx=> ?_,fun x hx=> ?_,fun x hx=> ?_,fun i hi=> ?_⟩
  ·simp only [eH,Az];rcases Px hx with h' | rfl
   ·have:=h.nb x h';omega
   ·omega
  ·rcases pO.1 hx with h' | h'
   ·exact Ti _ (h.mem x h')
   ·rw [jN.1 h'];simp
  ·rcases pO.1 hx with h' | h'
   ·exact Ti _ (h.has x h')
   ·rw [jN.1 h'];simp
  ·simp only [eH,Az] at hi;by_cases hi':i<st.rs.length
   ·obtain ⟨t,ht,e⟩:=h.hit i hi';exact ⟨t,Ti _ ht,by rw [gL _ _ _ _ _ hsn,if_neg (fun e':s=t=>hsl (by rw [e'];exact ht))];exact e⟩
   ·exact ⟨s,by simp,by rw [gL _ _ _ _ _ hsn,if_pos rfl];have:=h.len;omega⟩
theorem xh {nx:List (List Nat)} {bl:List Nat} {n:Nat} {l:List Nat} (hl:mo n l):∀k,k≤l.length→((l.take k).foldl (wX nx bl) (GX n)).Ok nx bl n (l.take k)
 | 0,_=>acF nx bl n
 | k+1,hk=>by
  have hk':k<l.length:=hk;rw [dz _ _ _ _ hk',Av hk'];refine YN (xh hl k (by omega)) (hl.lt _ (oO hk')) fun hm=> ?_;obtain ⟨j,hj,e⟩:=X0.1 hm;have:=(List.getElem_inj (xs:=l) hl.nd).1 e;omega
theorem wG {nx:List (List Nat)} {bl:List Nat} {n:Nat} {l:List Nat} (hl:mo n l):(lU nx bl n l).Ok nx bl n l:=by
 have:=xh (nx:=nx) (bl:=bl) hl l.length (af _);rw [Qp] at this;exact this
theorem nL {nx:List (List Nat)} {bl:List Nat} {n c:Nat} {l:List Nat} (hl:mo n l) (hc:∀i,i<c→∃s∈l,bl.getD s 0=i):c≤(lU nx bl n l).rs.length:=by
 have h:=wG (nx:=nx) (bl:=bl) hl;rw [h.len]
 have:=Bd (List.range c) ((lU nx bl n l).ks.map fun k=>k.headD 0) List.nodup_range fun i hi=>by
  obtain ⟨s,hs,e⟩:=hc i (LD.1 hi);exact uW.2 ⟨_,h.has s hs,by rw [← e];rfl⟩
 rwa [List.length_range,fe] at this
theorem yS (ac:List Bool) (n:Nat) (l:List Nat):∀k,k≤l.length→((l.take k).foldl (nT ac) (List.replicate n 0)).length=n∧∀x∈(l.take k).foldl (nT ac) (List.replicate n 0),x≤1
 | 0,_=>⟨by simp,fun x hx=>by rw [(Wu.1 hx).2];omega⟩
 | k+1,hk=>by
  rw [dz _ _ _ _ hk];obtain ⟨h1,h2⟩:=yS ac n l k (by omega);unfold nT;split
  ·refine ⟨by rw [qz];exact h1,fun x hx=> ?_⟩;rcases Px hx with h' | rfl
   ·exact h2 x h'
   ·omega
  ·exact ⟨h1,h2⟩
structure TN (n:Nat) (l:List Nat) (p:List Nat×List Nat):Prop where
 bl:p.1.length=n
 bb:∀x∈p.1,x<p.2.length
 rm:∀x∈p.2,x∈l
 r1:1≤p.2.length
 rl:p.2.length≤l.length
theorem aaP {nx:List (List Nat)} {bl:List Nat} {n:Nat} {l:List Nat} (hl:mo n l):TN n l ((lU nx bl n l).bU,(lU nx bl n l).rs):=by
 have h:=wG (nx:=nx) (bl:=bl) hl
 have h1:1≤(lU nx bl n l).ks.length:=by
  have:=h.has _ (aK l 0 0 hl.ne);exact qcT this
 refine ⟨h.nl,fun x hx=> ?_,h.mem,?_,h.le⟩
 ·have:=h.nb x hx;rw [Nat.max_eq_left h1] at this;simp only [h.len];exact this
 ·simp only [h.len];exact h1
theorem QG {nx:List (List Nat)} {n:Nat} {l:List Nat} (hl:mo n l):∀(f:Nat) (bl:List Nat) (c:Nat),l.length<f+c→(∀i,i<c→∃s∈l,bl.getD s 0=i)→TN n l (uX nx n l f bl c)
 | 0,bl,c,hf,hc=>by
  have:=nL (nx:=nx) hl hc;have:=(wG (nx:=nx) (bl:=bl) hl).le;omega
 | f+1,bl,c,hf,hc=>by
  have hg:=nL (nx:=nx) hl hc;unfold uX;split
  ·exact aaP hl
  ·exact QG hl f _ _ (by omega) (wG (nx:=nx) (bl:=bl) hl).hit
theorem TB.JU (T:TB) {l:List Nat} (hl:mo T.nx.length l):TN T.nx.length l (T.refine l):=QG hl _ _ _ (by omega) fun i hi=>by omega
theorem Ul {nx:List (List Nat)} {n:Nat} {l:List Nat} (m c:Nat) (bl:List Nat) (hc:c<m):uX nx n l (m - c) bl c=if (lU nx bl n l).rs.length=c then ((lU nx bl n l).bU,(lU nx bl n l).rs) else uX nx n l (m - c - 1) (lU nx bl n l).bU (lU nx bl n l).rs.length:=by
 rw [show m - c=(m - c - 1)+1 by omega,uX];rfl
theorem KF {nx:List (List Nat)} {n:Nat} {l:List Nat} (hl:mo n l):∀(f g:Nat) (bl:List Nat) (c:Nat),l.length<f+c→l.length<g+c→(∀i,i<c→∃s∈l,bl.getD s 0=i)→uX nx n l f bl c=uX nx n l g bl c
 | 0,g,bl,c,hf,_,hc=>by
  have:=nL (nx:=nx) hl hc;have:=(wG (nx:=nx) (bl:=bl) hl).le;omega
 | f+1,0,bl,c,_,hg,hc=>by
  have:=nL (nx:=nx) hl hc;have:=(wG (nx:=nx) (bl:=bl) hl).le;omega
 | f+1,g+1,bl,c,hf,hg,hc=>by
  have hgr:=nL (nx:=nx) hl hc;unfold uX;split
  ·rfl
  ·exact KF hl f g _ _ (by omega) (by omega) (wG (nx:=nx) (bl:=bl) hl).hit
structure MS where
 ks:List (List Nat)
 cells:List Nat
 cls:List Cl
 of:List Int
def jy (nx:List (List Nat)) (block:List Nat) (s c:Nat):Nat:=block.getD ((nx.getD s []).getD c 0) 0
def tQ (nx:List (List Nat)) (block az:List Nat) (c:Nat):List Nat:=az.map fun s=>jy nx block s c
def jG (nx:List (List Nat)) (block az:List Nat) (st:MS) (c:Nat):MS:=
 if st.of.getD c 0<0 then
  (if tQ nx block az c∈st.ks then {st with of:=st.of.set c (st.ks.idxOf (tQ nx block az c):Nat)}
   else ⟨st.ks++[tQ nx block az c],st.cells++[c],st.cls++[bV],st.of.set c (st.ks.length:Nat)⟩)
 else st
def yG (st:MS) (c b:Nat):MS:={st with cls:=st.cls.set (st.of.getD c 0).toNat ((st.cls.getD (st.of.getD c 0).toNat bV).union (bV.add b))}
def ms0 (n:Nat):MS:=⟨[],[],[],List.replicate n (-1)⟩
def iG (T:TB) (block az:List Nat):Nat→MS
 | 0=>ms0 T.cells
 | b+1=>yG (jG T.nx block az (iG T block az b) (T.cell.getD b 0)) (T.cell.getD b 0) b
structure MS.Ok (n k:Nat) (st:MS):Prop where
 cl:st.cells.length=st.ks.length
 cc:st.cls.length=st.ks.length
 ol:st.of.length=n
 ob:∀x∈st.of,x<st.ks.length
 cb:∀x∈st.cells,x<n
 le:st.ks.length≤k
theorem acE (n:Nat):(ms0 n).Ok n 0:=⟨rfl,rfl,by simp [ms0],fun x hx=>by rw [(Wu.1 hx).2];show (-1:Int)<0;omega,by simp [ms0],af _⟩
theorem yU {n k:Nat} {st:MS} (h:st.Ok n k) (nx:List (List Nat)) (block az:List Nat) {c:Nat} (hc:c<n):(jG nx block az st c).Ok n (k+1)∧0≤(jG nx block az st c).of.getD c 0:=by
 have hco:c<st.of.length:=by rw [h.ol];exact hc
 unfold jG;split
 ·split
  ·rename_i _ hm;have hid:=qb5 hm;refine ⟨⟨h.cl,h.cc,by rw [qz];exact h.ol,fun x hx=> ?_,h.cb,by have:=h.le;show st.ks.length≤_;omega⟩,?_⟩
   ·rcases Px hx with h' | rfl
    ·exact h.ob x h'
    ·show _<(st.ks.length:Int);omega
   ·show 0≤(st.of.set c _).getD c 0;rw [gL _ _ _ _ _ hco,if_pos rfl];omega
  ·refine ⟨⟨by simp [h.cl],by simp [h.cc],by rw [qz];exact h.ol,fun x hx=> ?_,fun x hx=> ?_,?_⟩,?_⟩
   ·simp only [eH,Az];rcases Px hx with h' | rfl
    ·have:=h.ob x h';omega
    ·omega
   ·rcases pO.1 hx with h' | h'
    ·exact h.cb x h'
    ·rw [jN.1 h'];exact hc
   ·simp only [eH,Az];have:=h.le;omega
   ·show 0≤(st.of.set c _).getD c 0;rw [gL _ _ _ _ _ hco,if_pos rfl];omega
 ·rename_i hn;exact ⟨⟨h.cl,h.cc,h.ol,h.ob,h.cb,by have:=h.le;omega⟩,by omega⟩
theorem Wv {n k:Nat} {st:MS} (h:st.Ok n k) (c b:Nat):(yG st c b).Ok n k:=⟨h.cl,by show (st.cls.set _ _).length=_;rw [qz];exact h.cc,h.ol,h.ob,h.cb,h.le⟩
theorem kX {T:TB} (h:T.Ok) (b:Nat) (hb:b<256):T.cell.getD b 0<T.cells:=h.cb _ (aK _ _ _ (by rw [h.cl];exact hb))
theorem lN {T:TB} (h:T.Ok) (block az:List Nat):∀k,k≤256→(iG T block az k).Ok T.cells k
 | 0,_=>acE _
 | k+1,hk=>Wv (yU (lN h block az k (by omega)) _ _ _ (kX h k (by omega))).1 _ _
theorem TJ {T:TB} (h:T.Ok) (block az:List Nat):∀k,k<256→1≤(iG T block az (k+1)).ks.length
 | k,hk=>by
  have ⟨h1,h2⟩:=yU (lN h block az k (by omega)) T.nx block az (kX h k hk);have:=h1.ob _ (aK _ _ 0 (by rw [h1.ol];exact kX h k hk));show 1≤(jG _ _ _ _ _).ks.length;omega
structure CS where
 ord:List Nat
 place:List Int
 row:List Nat
def iW (st:CS) (t:Nat):CS:=
 if st.place.getD t 0<0 then ⟨st.ord++[t],st.place.set t (st.ord.length:Nat),st.row++[st.ord.length]⟩ else {st with row:=st.row++[(st.place.getD t 0).toNat]}
def FB (nx:List (List Nat)) (block:List Nat) (s:Nat) (cells:List Nat) (st:CS):CS:=cells.foldl (fun st c=>iW st (jy nx block s c)) {st with row:=[]}
structure CA where
 st:CS
 nx:List (List Nat)
 ac:List Bool
def om (T:TB) (block az cells:List Nat) (a:CA) (i:Nat):CA:=
 let s:=az.getD (a.st.ord.getD i 0) 0
 let st':=FB T.nx block s cells a.st
 ⟨st',a.nx++[st'.row],a.ac++[T.ac.getD s false]⟩
def qy (T:TB) (block az cells:List Nat):Nat→Nat→CA→CA
 | 0,_,a=>a
 | f+1,i,a=>if i<a.st.ord.length then qy T block az cells f (i+1) (om T block az cells a i) else a
def sj (block az:List Nat):CA:=⟨⟨[block.getD 0 0],(List.replicate az.length (-1)).set (block.getD 0 0) 0,[]⟩,[],[]⟩
def Iy (T:TB) (p:List Nat×List Nat) (m:MS):DF:=
 let a:=qy T p.1 p.2 m.cells p.2.length 0 (sj p.1 p.2)
 ⟨m.cls,a.nx,a.ac⟩
def TB.merge (T:TB) (p:List Nat×List Nat):MS:=iG T p.1 p.2 256
def TB.canon (T:TB):DF:=Iy T (T.refine T.reach) (T.merge (T.refine T.reach))
structure CS.Ok (n:Nat) (st:CS):Prop where
 o:mo n st.ord
 pl:st.place.length=n
 pb:∀t,t<n→st.place.getD t 0<st.ord.length
 pm:∀t,t<n→(st.place.getD t 0<0→t∉st.ord)
 rb:∀x∈st.row,x<st.ord.length
theorem abH {n:Nat} {st:CS} (h:st.Ok n) {t:Nat} (ht:t<n):(iW st t).Ok n:=by
 have htp:t<st.place.length:=by rw [h.pl];exact ht
 unfold iW;split
 ·rename_i hn;have hm:=h.pm t ht hn
  have ho:mo n (st.ord++[t]):=by
   have:=h.o.add ht
   rwa [addN,if_neg hm] at this
  refine ⟨ho,by rw [qz];exact h.pl,fun u hu=> ?_,fun u hu hlt=> ?_,fun x hx=> ?_⟩
  ·rw [gL _ _ _ _ _ htp,eH];split
   ·simp only [Az];omega
   ·have:=h.pb u hu;simp only [Az];omega
  ·rw [gL _ _ _ _ _ htp] at hlt;split at hlt
   ·omega
   ·rename_i hne;intro hmem;rcases pO.1 hmem with h' | h'
    ·exact h.pm u hu hlt h'
    ·exact hne (jN.1 h').symm
  ·simp only [eH,Az];rcases pO.1 hx with h' | h'
   ·have:=h.rb x h';omega
   ·rw [jN.1 h'];omega
 ·rename_i hn;refine ⟨h.o,h.pl,h.pb,h.pm,fun x hx=> ?_⟩;rcases pO.1 hx with h' | h'
  ·exact h.rb x h'
  ·rw [jN.1 h'];show (st.place.getD t 0).toNat<st.ord.length;have:=h.pb t ht;omega
theorem WX (st:CS) (t:Nat):(iW st t).row.length=st.row.length+1∧st.ord.length≤(iW st t).ord.length:=by
 unfold iW;split<;>simp
theorem Ac {n:Nat} {st:CS} (h:st.Ok n) {nx:List (List Nat)} {block:List Nat} (hb:∀s c,jy nx block s c<n) (s:Nat) (cells:List Nat):
  ∀k,k≤cells.length→((cells.take k).foldl (fun st c=>iW st (jy nx block s c)) {st with row:=[]}).Ok n∧((cells.take k).foldl (fun st c=>iW st (jy nx block s c)) {st with row:=[]}).row.length=k∧st.ord.length≤((cells.take k).foldl (fun st c=>iW st (jy nx block s c)) {st with row:=[]}).ord.length
 | 0,_=>⟨⟨h.o,h.pl,h.pb,h.pm,by simp⟩,rfl,af _⟩
 | k+1,hk=>by
  rw [dz _ _ _ _ hk];obtain ⟨h1,h2,h3⟩:=Ac h hb s cells k (by omega);have:=WX ((cells.take k).foldl (fun st c=>iW st (jy nx block s c)) {st with row:=[]}) (jy nx block s cells[k]);exact ⟨abH h1 (hb _ _),by rw [this.1,h2],by omega⟩
theorem Ze {n:Nat} {st:CS} (h:st.Ok n) {nx:List (List Nat)} {block:List Nat} (hb:∀s c,jy nx block s c<n) (s:Nat) (cells:List Nat):
  (FB nx block s cells st).Ok n∧(FB nx block s cells st).row.length=cells.length∧st.ord.length≤(FB nx block s cells st).ord.length:=by
 have:=Ac h hb s cells cells.length (af _);rw [Qp] at this;exact this
structure CA.Ok (n m i:Nat) (a:CA):Prop where
 st:a.st.Ok n
 il:i≤a.st.ord.length
 nl:a.nx.length=i
 al:a.ac.length=i
 rl:∀r∈a.nx,r.length=m
 rb:∀r∈a.nx,∀t∈r,t<a.st.ord.length
theorem MZ {T:TB} {block az cells:List Nat} {n i:Nat} {a:CA} (h:a.Ok n cells.length i) (hb:∀s c,jy T.nx block s c<n) (hi:i<a.st.ord.length):(om T block az cells a i).Ok n cells.length (i+1):=by
 obtain ⟨h1,h2,h3⟩:=Ze h.st hb (az.getD (a.st.ord.getD i 0) 0) cells;refine ⟨h1,by show i+1≤(FB _ _ _ _ _).ord.length;omega,by simp [om,h.nl],by simp [om,h.al],fun r hr=> ?_,fun r hr t ht=> ?_⟩
 ·rcases pO.1 hr with h' | h'
  ·exact h.rl r h'
  ·rw [jN.1 h'];exact h2
 ·show t<(FB _ _ _ _ _).ord.length;rcases pO.1 hr with h' | h'
  ·have:=h.rb r h' t ht;omega
  ·rw [jN.1 h'] at ht;exact h1.rb t ht
theorem UG {block az:List Nat} {m:Nat} (hb:block.getD 0 0<az.length):(sj block az).Ok az.length m 0:=by
 have hs:block.getD 0 0<(List.replicate az.length (-1:Int)).length:=by rw [SY];exact hb
 refine ⟨⟨⟨by simp [sj],by simp only [sj,jN];rintro x rfl;exact hb,by simp [sj]⟩,by simp [sj],fun t ht=> ?_,fun t ht hlt hm=> ?_,by simp [sj]⟩,LC _,rfl,rfl,by simp [sj],by simp [sj]⟩
 ·simp only [sj,Az];rw [gL _ _ _ _ _ hs];split
  ·omega
  ·rw [dJ,Yd,if_pos ht];simp
 ·simp only [sj,jN] at hm;subst hm;simp only [sj] at hlt;rw [gL _ _ _ _ _ hs,if_pos rfl] at hlt;omega
theorem Qs {T:TB} {block az cells:List Nat} {n:Nat} (hb:∀s c,jy T.nx block s c<n):∀(f i:Nat) (a:CA),a.Ok n cells.length i→n≤f+i→∃k,(qy T block az cells f i a).Ok n cells.length k∧k=(qy T block az cells f i a).st.ord.length
 | 0,i,a,h,hf=>⟨i,h,by have:=h.st.o.len;have:=h.il;simp only [qy];omega⟩
 | f+1,i,a,h,hf=>by
  unfold qy;split
  ·rename_i hi;exact Qs hb f _ _ (MZ h hb hi) (by omega)
  ·rename_i hi;exact ⟨i,h,by have:=h.il;omega⟩
theorem Tm (T:TB) (block az cells:List Nat) (n i:Nat) (a:CA) (h:i<a.st.ord.length) (hn:a.st.ord.length≤n):qy T block az cells (n - i) i a=qy T block az cells (n - (i+1)) (i+1) (om T block az cells a i):=by
 rw [show n - i=(n - (i+1))+1 by omega,qy,if_pos h]
theorem VM (T:TB) (block az cells:List Nat) (f i:Nat) (a:CA) (h:a.st.ord.length≤i):qy T block az cells f i a=a:=by
 cases f with
 | zero=>rfl
 | succ f=>rw [qy,if_neg (by omega)]
theorem BI {nx:List (List Nat)} {n:Nat} {l:List Nat} {p:List Nat×List Nat} (h:TN n l p) (s c:Nat):jy nx p.1 s c<p.2.length:=by
 unfold jy;generalize (nx.getD s []).getD c 0=t;by_cases ht:t<p.1.length
 ·exact h.bb _ (aK _ _ _ ht)
 ·rw [dJ,qJ (by omega)];exact h.r1
theorem aaS {T:TB} (h:T.Ok) {l:List Nat} (hl:mo T.nx.length l) {p:List Nat×List Nat} (hb:TN T.nx.length l p) {m:MS} (hm:m.Ok T.cells 256) (h1:1≤m.ks.length):
  (Iy T p m).Ok∧(Iy T p m).nx.length≤T.nx.length:=by
 have h0:p.1.getD 0 0<p.2.length:=hb.bb _ (aK _ 0 0 (by rw [hb.bl];exact h.n1));obtain ⟨k,hk,he⟩:=Qs (T:=T) (az:=p.2) (cells:=m.cells) (BI hb) p.2.length 0 (sj _ _) (UG h0) (by omega)
 have hkl:k≤T.nx.length:=by
  have:=hk.st.o.len;have:=hb.rl;have:=hl.len;omega
 unfold Iy;generalize qy T p.1 p.2 m.cells p.2.length 0 (sj p.1 p.2)=a at hk he ⊢;refine ⟨⟨?_,?_,?_,?_,?_,?_,?_⟩,?_⟩
 ·show 1≤m.cls.length;rw [hm.cc];exact h1
 ·show m.cls.length≤256;rw [hm.cc];exact hm.le
 ·show 1≤a.nx.length;rw [hk.nl,he];exact hk.st.o.ne
 ·show a.nx.length≤_;rw [hk.nl];have:=h.nn;omega
 ·show a.ac.length=a.nx.length;rw [hk.nl,hk.al]
 ·intro r hr;show _=m.cls.length;rw [hm.cc,← hm.cl];exact hk.rl r hr
 ·intro r hr t ht;show t<a.nx.length;rw [hk.nl,he];exact hk.rb r hr t ht
 ·show a.nx.length≤_;rw [hk.nl];exact hkl
theorem TB.Ok.canon {T:TB} (h:T.Ok):T.canon.Ok∧T.canon.nx.length≤T.nx.length:=
 aaS h h.reach (T.JU h.reach) (lN h _ _ 256 (af _)) (TJ h _ _ 255 (by omega))
end
end Go.Proofs.YtncnfncglacheaaGreatDoor
