/- Part of a proof. -/
import Derived.Test.YtngjelolnfgnbaaGreatDoorMHeldD
import Derived.Test.YtngjelolnfgnbaaGreatDoorMTree
set_option linter.all false
set_option maxRecDepth 100000
set_option maxHeartbeats 64000000
namespace Go.Proofs.YtngjelolnfgnbaaGreatDoor
section
open Go Go.RowKit Mem
structure Cl where
 a:UInt64
 b:UInt64
 c:UInt64
 d:UInt64
deriving DecidableEq
abbrev aC (c:Cl):Array Value:= #[.int .u64 (X c.a), .int .u64 (X c.b), .int .u64 (X c.c), .int .u64 (X c.d)]
def aS (c:Cl):List OC:=[ow (X c.a),ow (X c.b),ow (X c.c),ow (X c.d)]
theorem aA:gB Tryz.prog 117 4:=⟨fun _=>by kernel_rfl,fun _=>by kernel_rfl⟩
theorem gq (x:UInt64):X (bA x)≤127:=by
 have h:∀y:UInt64,X (y &&& 127)≤127:=by
  intro y;have h2:(y &&& 127).toNat<2 ^ 7:=by rw [sI];exact Nat.and_lt_two_pow _ (by decide)
  unfold X;omega
 exact h _
def Cl.size (c:Cl):Int:=X (bA c.a)+X (bA c.b)+X (bA c.c)+X (bA c.d)
theorem qZ (w:World) (c:Cl):Calls Tryz.prog 58 #[.agg (aC c)] w fun e w'=>e= .returned (.int .i64 c.size)∧Below w.heap.size w w':=by
 have x0:∀w,(Instr.index 117 (.agg (aC c)) (.int .i64 0)).run Tryz.prog w= .ok (.int .u64 (X c.a)) w:=fun w=>by first | rfl | kernel_rfl
 have x1:∀w,(Instr.index 117 (.agg (aC c)) (.int .i64 1)).run Tryz.prog w= .ok (.int .u64 (X c.b)) w:=fun w=>by first | rfl | kernel_rfl
 have x2:∀w,(Instr.index 117 (.agg (aC c)) (.int .i64 2)).run Tryz.prog w= .ok (.int .u64 (X c.c)) w:=fun w=>by first | rfl | kernel_rfl
 have x3:∀w,(Instr.index 117 (.agg (aC c)) (.int .i64 3)).run Tryz.prog w= .ok (.int .u64 (X c.d)) w:=fun w=>by first | rfl | kernel_rfl
 have hr:Row oV (w.alloc (.cells (aC c) 117)) w.heap.size 117 (aS c):=Row.new _ _ rfl;have hB:Below w.heap.size w (w.alloc (.cells (aC c) 117)):=(aI _ _).alloc (aj _) _;go_enter Tryz.func58,Tryz.ntmps58
 go_wp2_with (first
  | ((with_reducible refine zL hr.at aA rfl (C:=aC c) ?_)))
 generalize (w.alloc (.cells (aC c) 117))=W at hB ⊢;clear hr;have b1:=gq c.a;have b2:=gq c.b;have b3:=gq c.c;have b4:=gq c.d;have n1:=dU (bA c.a);have n2:=dU (bA c.b);have n3:=dU (bA c.c);have n4:=dU (bA c.d);have w1:wrap64 (X (bA c.a))=X (bA c.a):=by unfold wrap64;omega
 have w2:wrap64 (X (bA c.a)+X (bA c.b))=X (bA c.a)+X (bA c.b):=by unfold wrap64;omega
 have w3:wrap64 (X (bA c.a)+X (bA c.b)+X (bA c.c))=X (bA c.a)+X (bA c.b)+X (bA c.c):=by unfold wrap64;omega
 have w4:wrap64 (X (bA c.a)+X (bA c.b)+X (bA c.c)+X (bA c.d))=X (bA c.a)+X (bA c.b)+X (bA c.c)+X (bA c.d):=by unfold wrap64;omega
 refine wp_loop_rounds 5 ?_;refine bH (n:=4) ?_;go_wp2_with fail;refine (onesCount _ c.a).mono ?_;rintro e W0 ⟨rfl,rfl⟩;go_wp2_with fail;refine bH (n:=3) ?_;go_wp2_with fail;refine (onesCount _ c.b).mono ?_;rintro e W1 ⟨rfl,rfl⟩;go_wp2_with fail;refine bH (n:=2) ?_;go_wp2_with fail;refine (onesCount _ c.c).mono ?_;rintro e W2 ⟨rfl,rfl⟩;go_wp2_with fail;refine bH (n:=1) ?_;go_wp2_with fail;refine (onesCount _ c.d).mono ?_;rintro e W3 ⟨rfl,rfl⟩;go_wp2_with fail;refine bH (n:=0) ?_;go_wp2;go_ret;exact ⟨rfl,hB⟩
def Cl.w (c:Cl) (i:Nat):UInt64:=match i with | 0=>c.a | 1=>c.b | 2=>c.c | _=>c.d
def Cl.has (c:Cl) (b:UInt8):Bool:=c.w (b.toNat / 64) &&& ((1:UInt64)<<<UInt64.ofNat (b.toNat % 64)) !=0
theorem sV (c:Cl) (q:Nat) (h:q<4):(aS c)[q]?=some (ow (X (c.w q))):=by
 rcases (by omega:q=0∨q=1∨q=2∨q=3) with rfl | rfl | rfl | rfl<;>rfl
theorem CU (r:Nat) (h:r<64):IntKind.u64.wrap ((2:Int) ^ r)=X ((1:UInt64)<<<UInt64.ofNat r):=by
 unfold X;rw [IntKind.wrap_u64,UInt64.toNat_shiftLeft,Nat.shiftLeft_eq];have h1:(UInt64.ofNat r).toNat % 64=r:=by rw [GM (by simp [UInt64.size];omega)];omega
 rw [h1,show (1:UInt64).toNat=1 from rfl,Nat.one_mul];simp
theorem BR (x:UInt64) (r:Nat) (h:r<64):(bits .and .u64 (X x) (IntKind.u64.wrap ((2:Int) ^ r)) !=0)=(x &&& ((1:UInt64)<<<UInt64.ofNat r) !=0):=by
 rw [CU r h,wo];generalize x &&& _=y;have:X y=0↔y=0:=⟨fun h=>Gu (y:=0) h,fun h=>by rw [h];rfl⟩
 rw [DT];simp [this]
theorem Gz (w:World) (c:Cl) (b:UInt8):Calls Tryz.prog 196 #[.agg (aC c), .int .u8 (b.toNat:Int)] w fun e w'=>e= .returned (.bool (c.has b))∧Below w.heap.size w w':=by
 obtain ⟨q,r,hq,hr,hn⟩:∃q r,q<4∧r<64∧b.toNat=64 * q+r:=⟨b.toNat / 64,b.toNat % 64,by have:=b.toNat_lt;omega,by omega,by omega⟩
 have hh:c.has b=(c.w q &&& ((1:UInt64)<<<UInt64.ofNat r) !=0):=by
  unfold Cl.has;rw [show b.toNat / 64=q by omega,show b.toNat % 64=r by omega]
 rw [hh];have hrow:Row oV (w.alloc (.cells (aC c) 117)) w.heap.size 117 (aS c):=Row.new _ _ rfl;have hB:Below w.heap.size w (w.alloc (.cells (aC c) 117)):=(aI _ _).alloc (aj _) _;have hc:(w.alloc (.cells (aC c) 117)).cell? ⟨w.heap.size,q,none⟩=some (.int .u64 (X (c.w q))):=by rw [hrow.cell?,sV c q hq];rfl
 have d1:((b.toNat:Int)).tdiv 64=(q:Int):=by rw [hn,Gs (by omega)];omega
 have d2:((b.toNat:Int)).tmod 64=(r:Int):=by rw [hn,zO (by omega)];omega
 have d3:(b.toNat:Int) / 64=(q:Int):=by omega
 have d4:(b.toNat:Int) % 64=(r:Int):=by omega
 clear hn hrow hh;go_enter Tryz.func196,Tryz.ntmps196;go_upto_region 1 with (fail);generalize (w.alloc (.cells (aC c) 117))=W at hB hc ⊢;have hq':(q:Int)<4:=by omega
 go_wp2_with fail;go_ret;exact ⟨by rw [← BR _ r hr];rfl,hB⟩
theorem ai {B:Nat} {a w:World} (h:Below B a w) (hB:B≤a.heap.size) (o:Obj):Below B a (w.alloc o):=h.alloc (gp hB h.size) o
theorem Af (w:World) (x y:UInt64):Calls Tryz.prog 93 #[.int .u64 (X x), .int .u64 (X y)] w fun e w'=>e= .returned (.int .u64 (X (x ||| y)))∧w'=w:=by
 have h:=FR x y;go_enter Tryz.func93,Tryz.ntmps93;go_wp2;go_ret;exact ⟨rfl,rfl⟩
def Cl.union (x y:Cl):Cl:=⟨x.a ||| y.a,x.b ||| y.b,x.c ||| y.c,x.d ||| y.d⟩
abbrev og:Array Value:= #[.int .u64 0, .int .u64 0, .int .u64 0, .int .u64 0]
theorem zl (w:World) (x y:Cl):Calls Tryz.prog 92 #[.agg (aC x), .agg (aC y), .func (.func 93) #[] #[]] w fun e w'=>e= .returned (.agg (aC (x.union y)))∧Below w.heap.size w w':=by
 go_enter Tryz.func92,Tryz.ntmps92;go_upto_region 2 with (fail)
 obtain ⟨W,hW,hB,hs,r0,r1,r2,r3⟩:∃W,((((w.alloc (.cells (aC x) 117)).alloc (.cells (aC y) 117)).alloc (.cells og 117)).alloc (.cells og 117))=W∧Below w.heap.size w W∧W.heap.size=w.heap.size+4∧W.heap[w.heap.size]?=some (.cells (aC x) 117 (0,0))∧W.heap[w.heap.size+1]?=some (.cells (aC y) 117 (0,0))∧W.heap[w.heap.size+1+1]?=some (.cells og 117 (0,0))∧W.heap[w.heap.size+1+1+1]?=some (.cells og 117 (0,0)):=by
  refine ⟨_,rfl,?_,by simp,?_,?_,?_,?_⟩
  ·exact ai (ai (ai (ai (aI _ _) (aj _) _) (aj _) _) (aj _) _) (aj _) _
  all_goals repeat (first | (refine bG _ _ _ ?_;(simp;done)) | (refine (oI _ _ _ ?_).trans ?_;·(simp<;>omega)))
 rw [hW];clear hW;replace r0:Row oV W w.heap.size 117 (aS x):=r0;replace r1:Row oV W (w.heap.size+1) 117 (aS y):=r1;replace r2:Row oV W (w.heap.size+1+1) 117 [ow 0,ow 0,ow 0,ow 0]:=r2;replace r3:Row oV W (w.heap.size+1+1+1) 117 [ow 0,ow 0,ow 0,ow 0]:=r3;have hs':w.heap.size+4≤W.heap.size:=Nat.le_of_eq hs.symm;clear hs;go_wp2_with fail;refine wp_loop_rounds 5 ?_;refine bH (n:=4) ?_;go_upto_region 5 with (fail);have ha:∀X,Below W.heap.size W X→X.cell? ⟨w.heap.size,0,none⟩=some (.int .u64 (Go.Proofs.YtngjelolnfgnbaaGreatDoor.X x.a)):=fun X h=>by rw [(r0.below h r0.lt).cell?];rfl
 have hb:∀X,Below W.heap.size W X→X.cell? ⟨w.heap.size+1,0,none⟩=some (.int .u64 (Go.Proofs.YtngjelolnfgnbaaGreatDoor.X y.a)):=fun X h=>by rw [(r1.below h r1.lt).cell?];rfl
 refine aT (S:=fun X=>Below W.heap.size W X) 9 rfl (by kernel_rfl) (aI _ _).drew fun hS=> ?_;refine tk 0 12 (.int .i64 0) hS ?_;refine tk 1 13 (.func (.func 93) #[] #[]) hS ?_;refine tk 2 14 (.int .i64 0) hS ?_;refine tk 3 15 (.pointer (some ⟨w.heap.size,0,none⟩)) hS ?_;refine tk 4 16 (.int .u64 (X x.a)) hS ?_ rfl (qi fun W' h=>by have q0:=ha W' h;have q1:=hb W' h;go_simp);refine tk 5 17 (.int .i64 0) hS ?_;refine tk 6 18 (.pointer (some ⟨w.heap.size+1,0,none⟩)) hS ?_;refine tk 7 19 (.int .u64 (X y.a)) hS ?_ rfl (qi fun W' h=>by have q0:=ha W' h;have q1:=hb W' h;go_simp);refine mG 8 (fun K' hK=> ?_);refine cD 20 93 #[.int .u64 (X x.a), .int .u64 (X y.a)] ?_;refine (Af _ x.a y.a).mono ?_;rintro e Wa ⟨rfl,rfl⟩;refine ⟨_,rfl,hK.out _ _ hS fun _=> ?_⟩;clear hK ha hb;simp only [sA,sB,sC];refine aW (by kernel_rfl) ?_;simp only [List.drop];replace r0:=r0.drew;replace r1:=r1.drew;replace r2:=r2.drew;replace r3:=r3.drew;replace hB:=hB.drew;replace hs':w.heap.size+4≤W.drew.heap.size:=hs';clear hS;generalize W.drew=Y at *;have e3:Y.cell? ⟨w.heap.size+1+1+1,0,none⟩=some (.int .u64 0):=by rw [r3.cell?];rfl
 have f3:=r3.frozen 0;go_wp2_with fail;replace r3:Row oV (Y.setCell ⟨w.heap.size+1+1+1,0,none⟩ (.int .u64 (X (x.a ||| y.a)))) (w.heap.size+1+1+1) 117 [ow (X (x.a ||| y.a)),ow 0,ow 0,ow 0]:=r3.set 0 (ow (X (x.a ||| y.a)));replace r0:=r0.aB (b':=w.heap.size+1+1+1) (by omega) 0 (.int .u64 (X (x.a ||| y.a)));replace r1:=r1.aB (b':=w.heap.size+1+1+1) (by omega) 0 (.int .u64 (X (x.a ||| y.a)));replace r2:=r2.aB (b':=w.heap.size+1+1+1) (by omega) 0 (.int .u64 (X (x.a ||| y.a)));replace hB:=aQ hB (b:=w.heap.size+1+1+1) 0 (by omega) (.int .u64 (X (x.a ||| y.a)));replace hs':w.heap.size+4≤(Y.setCell ⟨w.heap.size+1+1+1,0,none⟩ (.int .u64 (X (x.a ||| y.a)))).heap.size:=by simpa using hs'
 clear e3 f3;generalize (Y.setCell ⟨w.heap.size+1+1+1,0,none⟩ (.int .u64 (X (x.a ||| y.a))))=W at *;refine bH (n:=3) ?_;go_upto_region 5 with (fail);have ha:∀X,Below W.heap.size W X→X.cell? ⟨w.heap.size,1,none⟩=some (.int .u64 (Go.Proofs.YtngjelolnfgnbaaGreatDoor.X x.b)):=fun X h=>by rw [(r0.below h r0.lt).cell?];rfl
 have hb:∀X,Below W.heap.size W X→X.cell? ⟨w.heap.size+1,1,none⟩=some (.int .u64 (Go.Proofs.YtngjelolnfgnbaaGreatDoor.X y.b)):=fun X h=>by rw [(r1.below h r1.lt).cell?];rfl
 refine aT (S:=fun X=>Below W.heap.size W X) 9 rfl (by kernel_rfl) (aI _ _).drew fun hS=> ?_;refine tk 0 12 (.int .i64 1) hS ?_;refine tk 1 13 (.func (.func 93) #[] #[]) hS ?_;refine tk 2 14 (.int .i64 1) hS ?_;refine tk 3 15 (.pointer (some ⟨w.heap.size,1,none⟩)) hS ?_;refine tk 4 16 (.int .u64 (X x.b)) hS ?_ rfl (qi fun W' h=>by have q0:=ha W' h;have q1:=hb W' h;go_simp);refine tk 5 17 (.int .i64 1) hS ?_;refine tk 6 18 (.pointer (some ⟨w.heap.size+1,1,none⟩)) hS ?_;refine tk 7 19 (.int .u64 (X y.b)) hS ?_ rfl (qi fun W' h=>by have q0:=ha W' h;have q1:=hb W' h;go_simp);refine mG 8 (fun K' hK=> ?_);refine cD 20 93 #[.int .u64 (X x.b), .int .u64 (X y.b)] ?_;refine (Af _ x.b y.b).mono ?_;rintro e Wa ⟨rfl,rfl⟩;refine ⟨_,rfl,hK.out _ _ hS fun _=> ?_⟩;clear hK ha hb;simp only [sA,sB,sC];refine aW (by kernel_rfl) ?_;simp only [List.drop];replace r0:=r0.drew;replace r1:=r1.drew;replace r2:=r2.drew;replace r3:=r3.drew;replace hB:=hB.drew;replace hs':w.heap.size+4≤W.drew.heap.size:=hs';clear hS;generalize W.drew=Y at *;have e3:Y.cell? ⟨w.heap.size+1+1+1,1,none⟩=some (.int .u64 0):=by rw [r3.cell?];rfl
 have f3:=r3.frozen 1;go_wp2_with fail;replace r3:Row oV (Y.setCell ⟨w.heap.size+1+1+1,1,none⟩ (.int .u64 (X (x.b ||| y.b)))) (w.heap.size+1+1+1) 117 [ow (X (x.a ||| y.a)),ow (X (x.b ||| y.b)),ow 0,ow 0]:=r3.set 1 (ow (X (x.b ||| y.b)));replace r0:=r0.aB (b':=w.heap.size+1+1+1) (by omega) 1 (.int .u64 (X (x.b ||| y.b)));replace r1:=r1.aB (b':=w.heap.size+1+1+1) (by omega) 1 (.int .u64 (X (x.b ||| y.b)));replace r2:=r2.aB (b':=w.heap.size+1+1+1) (by omega) 1 (.int .u64 (X (x.b ||| y.b)));replace hB:=aQ hB (b:=w.heap.size+1+1+1) 1 (by omega) (.int .u64 (X (x.b ||| y.b)));replace hs':w.heap.size+4≤(Y.setCell ⟨w.heap.size+1+1+1,1,none⟩ (.int .u64 (X (x.b ||| y.b)))).heap.size:=by simpa using hs'
 clear e3 f3;generalize (Y.setCell ⟨w.heap.size+1+1+1,1,none⟩ (.int .u64 (X (x.b ||| y.b))))=W at *;refine bH (n:=2) ?_;go_upto_region 5 with (fail);have ha:∀X,Below W.heap.size W X→X.cell? ⟨w.heap.size,2,none⟩=some (.int .u64 (Go.Proofs.YtngjelolnfgnbaaGreatDoor.X x.c)):=fun X h=>by rw [(r0.below h r0.lt).cell?];rfl
 have hb:∀X,Below W.heap.size W X→X.cell? ⟨w.heap.size+1,2,none⟩=some (.int .u64 (Go.Proofs.YtngjelolnfgnbaaGreatDoor.X y.c)):=fun X h=>by rw [(r1.below h r1.lt).cell?];rfl
 refine aT (S:=fun X=>Below W.heap.size W X) 9 rfl (by kernel_rfl) (aI _ _).drew fun hS=> ?_;refine tk 0 12 (.int .i64 2) hS ?_;refine tk 1 13 (.func (.func 93) #[] #[]) hS ?_;refine tk 2 14 (.int .i64 2) hS ?_;refine tk 3 15 (.pointer (some ⟨w.heap.size,2,none⟩)) hS ?_;refine tk 4 16 (.int .u64 (X x.c)) hS ?_ rfl (qi fun W' h=>by have q0:=ha W' h;have q1:=hb W' h;go_simp);refine tk 5 17 (.int .i64 2) hS ?_;refine tk 6 18 (.pointer (some ⟨w.heap.size+1,2,none⟩)) hS ?_;refine tk 7 19 (.int .u64 (X y.c)) hS ?_ rfl (qi fun W' h=>by have q0:=ha W' h;have q1:=hb W' h;go_simp);refine mG 8 (fun K' hK=> ?_);refine cD 20 93 #[.int .u64 (X x.c), .int .u64 (X y.c)] ?_;refine (Af _ x.c y.c).mono ?_;rintro e Wa ⟨rfl,rfl⟩;refine ⟨_,rfl,hK.out _ _ hS fun _=> ?_⟩;clear hK ha hb;simp only [sA,sB,sC];refine aW (by kernel_rfl) ?_;simp only [List.drop];replace r0:=r0.drew;replace r1:=r1.drew;replace r2:=r2.drew;replace r3:=r3.drew;replace hB:=hB.drew;replace hs':w.heap.size+4≤W.drew.heap.size:=hs';clear hS;generalize W.drew=Y at *;have e3:Y.cell? ⟨w.heap.size+1+1+1,2,none⟩=some (.int .u64 0):=by rw [r3.cell?];rfl
 have f3:=r3.frozen 2;go_wp2_with fail;replace r3:Row oV (Y.setCell ⟨w.heap.size+1+1+1,2,none⟩ (.int .u64 (X (x.c ||| y.c)))) (w.heap.size+1+1+1) 117 [ow (X (x.a ||| y.a)),ow (X (x.b ||| y.b)),ow (X (x.c ||| y.c)),ow 0]:=r3.set 2 (ow (X (x.c ||| y.c)));replace r0:=r0.aB (b':=w.heap.size+1+1+1) (by omega) 2 (.int .u64 (X (x.c ||| y.c)));replace r1:=r1.aB (b':=w.heap.size+1+1+1) (by omega) 2 (.int .u64 (X (x.c ||| y.c)));replace r2:=r2.aB (b':=w.heap.size+1+1+1) (by omega) 2 (.int .u64 (X (x.c ||| y.c)));replace hB:=aQ hB (b:=w.heap.size+1+1+1) 2 (by omega) (.int .u64 (X (x.c ||| y.c)));replace hs':w.heap.size+4≤(Y.setCell ⟨w.heap.size+1+1+1,2,none⟩ (.int .u64 (X (x.c ||| y.c)))).heap.size:=by simpa using hs'
 clear e3 f3;generalize (Y.setCell ⟨w.heap.size+1+1+1,2,none⟩ (.int .u64 (X (x.c ||| y.c))))=W at *;refine bH (n:=1) ?_;go_upto_region 5 with (fail);have ha:∀X,Below W.heap.size W X→X.cell? ⟨w.heap.size,3,none⟩=some (.int .u64 (Go.Proofs.YtngjelolnfgnbaaGreatDoor.X x.d)):=fun X h=>by rw [(r0.below h r0.lt).cell?];rfl
 have hb:∀X,Below W.heap.size W X→X.cell? ⟨w.heap.size+1,3,none⟩=some (.int .u64 (Go.Proofs.YtngjelolnfgnbaaGreatDoor.X y.d)):=fun X h=>by rw [(r1.below h r1.lt).cell?];rfl
 refine aT (S:=fun X=>Below W.heap.size W X) 9 rfl (by kernel_rfl) (aI _ _).drew fun hS=> ?_;refine tk 0 12 (.int .i64 3) hS ?_;refine tk 1 13 (.func (.func 93) #[] #[]) hS ?_;refine tk 2 14 (.int .i64 3) hS ?_;refine tk 3 15 (.pointer (some ⟨w.heap.size,3,none⟩)) hS ?_;refine tk 4 16 (.int .u64 (X x.d)) hS ?_ rfl (qi fun W' h=>by have q0:=ha W' h;have q1:=hb W' h;go_simp);refine tk 5 17 (.int .i64 3) hS ?_;refine tk 6 18 (.pointer (some ⟨w.heap.size+1,3,none⟩)) hS ?_;refine tk 7 19 (.int .u64 (X y.d)) hS ?_ rfl (qi fun W' h=>by have q0:=ha W' h;have q1:=hb W' h;go_simp);refine mG 8 (fun K' hK=> ?_);refine cD 20 93 #[.int .u64 (X x.d), .int .u64 (X y.d)] ?_;refine (Af _ x.d y.d).mono ?_;rintro e Wa ⟨rfl,rfl⟩;refine ⟨_,rfl,hK.out _ _ hS fun _=> ?_⟩;clear hK ha hb;simp only [sA,sB,sC];refine aW (by kernel_rfl) ?_;simp only [List.drop];replace r0:=r0.drew;replace r1:=r1.drew;replace r2:=r2.drew;replace r3:=r3.drew;replace hB:=hB.drew;replace hs':w.heap.size+4≤W.drew.heap.size:=hs';clear hS;generalize W.drew=Y at *;have e3:Y.cell? ⟨w.heap.size+1+1+1,3,none⟩=some (.int .u64 0):=by rw [r3.cell?];rfl
 have f3:=r3.frozen 3;go_wp2_with fail;replace r3:Row oV (Y.setCell ⟨w.heap.size+1+1+1,3,none⟩ (.int .u64 (X (x.d ||| y.d)))) (w.heap.size+1+1+1) 117 [ow (X (x.a ||| y.a)),ow (X (x.b ||| y.b)),ow (X (x.c ||| y.c)),ow (X (x.d ||| y.d))]:=r3.set 3 (ow (X (x.d ||| y.d)));replace r0:=r0.aB (b':=w.heap.size+1+1+1) (by omega) 3 (.int .u64 (X (x.d ||| y.d)));replace r1:=r1.aB (b':=w.heap.size+1+1+1) (by omega) 3 (.int .u64 (X (x.d ||| y.d)));replace r2:=r2.aB (b':=w.heap.size+1+1+1) (by omega) 3 (.int .u64 (X (x.d ||| y.d)));replace hB:=aQ hB (b:=w.heap.size+1+1+1) 3 (by omega) (.int .u64 (X (x.d ||| y.d)));replace hs':w.heap.size+4≤(Y.setCell ⟨w.heap.size+1+1+1,3,none⟩ (.int .u64 (X (x.d ||| y.d)))).heap.size:=by simpa using hs'
 clear e3 f3;generalize (Y.setCell ⟨w.heap.size+1+1+1,3,none⟩ (.int .u64 (X (x.d ||| y.d))))=W at *;refine bH (n:=0) ?_
 go_wp2_with (first
  | ((with_reducible refine zL (Row.at r3) aA rfl (C:=aC (x.union y)) ?_))
  | ((with_reducible refine zS (l':=aS (x.union y)) r2 aA ?_);(intro W6 hs6 iI yt)))
 refine o6 (dQ (f:=oV) (l:=aS (x.union y)) rfl _ aA (w.heap.size+1+1) 0 rfl hs6.at) rfl ?_;exact ⟨rfl,hB.grown iI hB.size (fun k e=>by cases e;omega)⟩
theorem DU (w:World) (x y:Cl):Calls Tryz.prog 59 #[.agg (aC x), .agg (aC y)] w fun e w'=>e= .returned (.agg (aC (x.union y)))∧Below w.heap.size w w':=by
 go_enter Tryz.func59,Tryz.ntmps59;go_upto_region 1 with (fail)
 obtain ⟨W,hW,hB,hs,r0,r1,r2⟩:∃W,(((w.alloc (.cells (aC x) 117)).alloc (.cells (aC y) 117)).alloc (.cells og 117))=W∧Below w.heap.size w W∧W.heap.size=w.heap.size+3∧W.heap[w.heap.size]?=some (.cells (aC x) 117 (0,0))∧W.heap[w.heap.size+1]?=some (.cells (aC y) 117 (0,0))∧W.heap[w.heap.size+1+1]?=some (.cells og 117 (0,0)):=by
  refine ⟨_,rfl,?_,by simp,?_,?_,?_⟩
  ·exact ai (ai (ai (aI _ _) (aj _) _) (aj _) _) (aj _) _
  all_goals repeat (first | (refine bG _ _ _ ?_;(simp;done)) | (refine (oI _ _ _ ?_).trans ?_;·(simp<;>omega)))
 rw [hW];clear hW;replace r0:Row oV W w.heap.size 117 (aS x):=r0;replace r1:Row oV W (w.heap.size+1) 117 (aS y):=r1;replace r2:Row oV W (w.heap.size+1+1) 117 [ow 0,ow 0,ow 0,ow 0]:=r2;have hs':w.heap.size+3≤W.heap.size:=Nat.le_of_eq hs.symm;clear hs
 go_wp2_with (first
  | ((with_reducible refine zL r0.at aA rfl (C:=aC x) ?_))
  | ((with_reducible refine zL r1.at aA rfl (C:=aC y) ?_)))
 refine (zl W x y).mono ?_;rintro e W2 ⟨rfl,hB2⟩;replace r2:=r2.below hB2 r2.lt;replace hB:=hB.trans (hB2.mono hB.size)
 go_wp2_with (first
  | ((with_reducible refine zS (l':=aS (x.union y)) r2 aA ?_);(intro W6 hs6 iI yt)))
 refine o6 (dQ (f:=oV) (l:=aS (x.union y)) rfl _ aA (w.heap.size+1+1) 0 rfl hs6.at) rfl ?_;exact ⟨rfl,hB.grown iI hB.size (fun k e=>by cases e;omega)⟩
def Cl.mem (c:Cl) (i:Nat):Bool:=(c.w (i / 64)).toNat.testBit (i % 64)
theorem yD (r:Nat) (h:r<64):((1:UInt64)<<<UInt64.ofNat r).toNat=2 ^ r:=by
 rw [UInt64.toNat_shiftLeft,Nat.shiftLeft_eq];have h1:(UInt64.ofNat r).toNat % 64=r:=by rw [GM (by simp [UInt64.size];omega)];omega
 rw [h1,show (1:UInt64).toNat=1 from rfl,Nat.one_mul];exact Nat.mod_eq_of_lt (Nat.pow_lt_pow_right (by omega) h)
theorem Er (x:UInt64) (r:Nat) (h:r<64):(x &&& ((1:UInt64)<<<UInt64.ofNat r) !=0)=x.toNat.testBit r:=by
 have e:(x &&& ((1:UInt64)<<<UInt64.ofNat r)).toNat=x.toNat &&& 2 ^ r:=by rw [sI,yD r h]
 have hbit:∀i,(x.toNat &&& 2 ^ r).testBit i=(x.toNat.testBit i && decide (r=i)):=fun i=>by rw [Nat.testBit_and,G6]
 cases hb:x.toNat.testBit r with
 | true=>
  rw [bne_iff_ne];intro h0;rw [h0] at e;have h1:=hbit r;rw [← e,hb] at h1;simp at h1
 | false=>
  have h0:x &&& ((1:UInt64)<<<UInt64.ofNat r)=0:=UInt64.toNat_inj.1 (by
   rw [e]
   apply G8
   intro i
   rw [hbit]
   by_cases hi:r=i
   ·subst hi;rw [hb];simp
   ·simp [hi])
  rw [h0];rfl
theorem xB (c:Cl) (b:UInt8):c.has b=c.mem b.toNat:=Er _ _ (xR _ (by omega))
theorem DV (x y:UInt64) (h:∀i,i<64→x.toNat.testBit i=y.toNat.testBit i):x=y:=by
 apply UInt64.toNat_inj.1;apply G8;intro i;rcases o8 i 64 with hi | hi
 ·exact h i hi
 ·have hp:2 ^ 64≤2 ^ i:=He (by omega) hi;rw [FO (bY x.toNat_lt hp),FO (bY y.toNat_lt hp)]
theorem Cl.rq (c:Cl) (q i:Nat) (hi:i<64):c.mem (64 * q+i)=(c.w q).toNat.testBit i:=by
 unfold Cl.mem;rw [show (64 * q+i) / 64=q by omega,show (64 * q+i) % 64=i by omega]
theorem Cl.ext_mem (c d:Cl) (h:∀i,i<256→c.mem i=d.mem i):c=d:=by
 have hw:∀q,q<4→c.w q=d.w q:=fun q hq=>DV _ _ fun i hi=>by
  rw [← c.rq q i hi,← d.rq q i hi];exact h _ (by omega)
 have h0:=hw 0 (by omega);have h1:=hw 1 (by omega);have h2:=hw 2 (by omega);have h3:=hw 3 (by omega);cases c;cases d;simp only [Cl.w] at h0 h1 h2 h3;subst h0;subst h1;subst h2;subst h3;rfl
def Cl.setW (c:Cl) (q:Nat) (x:UInt64):Cl:=match q with | 0=>{c with a:=x} | 1=>{c with b:=x} | 2=>{c with c:=x} | _=>{c with d:=x}
theorem Cl.Ff (c:Cl) (q p:Nat) (x:UInt64) (hq:q<4) (hp:p<4):(c.setW q x).w p=if p=q then x else c.w p:=by
 rcases (by omega:q=0∨q=1∨q=2∨q=3) with rfl | rfl | rfl | rfl<;>rcases (by omega:p=0∨p=1∨p=2∨p=3) with rfl | rfl | rfl | rfl<;>rfl
def Cl.add (c:Cl) (b:Nat):Cl:=c.setW (b / 64) (c.w (b / 64) ||| ((1:UInt64)<<<UInt64.ofNat (b % 64)))
theorem Cl.DL (c:Cl) (b i:Nat) (hb:b<256) (hi:i<256):(c.add b).mem i=(c.mem i || decide (i=b)):=by
 unfold Cl.add Cl.mem;rw [Cl.Ff _ _ _ _ (by omega) (by omega)];by_cases h:i / 64=b / 64
 ·rw [aF h,UInt64.toNat_or,yD _ (xR _ (by omega)),Ey,G6,h];congr 1;by_cases h2:i=b
  ·subst h2;simp
  ·rw [cB h2,cB (by omega)]
 ·rw [av h,cB (by intro e;subst e;exact h rfl),Cw]
abbrev kE:Cl:=⟨0,0,0,0⟩
theorem vJ (i:Nat):kE.mem i=false:=by
 unfold Cl.mem;have:∀q,kE.w q=0:=fun q=>by unfold Cl.w;split<;>rfl
 rw [this];exact Nat.zero_testBit _
def aO (p:Nat→Bool) (n:Nat):Cl:=(List.range n).foldl (fun c i=>if p i=true then c.add i else c) kE
theorem kR (p:Nat→Bool) (n:Nat):aO p (n+1)=if p n=true then (aO p n).add n else aO p n:=by
 unfold aO;rw [List.range_succ,EJ];rfl
theorem sF (p:Nat→Bool) (n:Nat) (hn:n≤256) (i:Nat) (hi:i<256):(aO p n).mem i=(decide (i<n) && p i):=by
 induction n with
 | zero=>rw [show aO p 0=kE from rfl,vJ];simp
 | succ n ih=>
  have ih:=ih (by omega);rw [kR];by_cases hp:p n=true
  ·rw [aF hp,Cl.DL _ _ _ (by omega) hi,ih];by_cases h:i=n
   ·subst h;simp [hp]
   ·have:decide (i<n+1)=decide (i<n):=decide_eq_decide.2 (by omega);rw [this];simp [h]
  ·rw [av hp,ih];by_cases h:i=n
   ·subst h;simp [hp]
   ·have:decide (i<n+1)=decide (i<n):=decide_eq_decide.2 (by omega);rw [this]
def Cl.inter (a b:Cl):Cl:=⟨a.a &&& b.a,a.b &&& b.b,a.c &&& b.c,a.d &&& b.d⟩
theorem mO (a b:Cl) (i:Nat):(a.union b).mem i=(a.mem i || b.mem i):=by
 unfold Cl.mem;have:(a.union b).w (i / 64)=a.w (i / 64) ||| b.w (i / 64):=by unfold Cl.w;split<;>rfl
 rw [this,UInt64.toNat_or,Ey]
theorem sM (a b:Cl) (i:Nat):(a.inter b).mem i=(a.mem i && b.mem i):=by
 unfold Cl.mem;have:(a.inter b).w (i / 64)=a.w (i / 64) &&& b.w (i / 64):=by unfold Cl.w;split<;>rfl
 rw [this,sI,Nat.testBit_and]
theorem ym (a b:Cl):aO (fun i=>a.mem i || b.mem i) 256=a.union b:=Cl.ext_mem _ _ fun i hi=>by
 rw [sF _ _ (aj _) _ hi,mO,dI hi,wF]
theorem yQ (a b:Cl):aO (fun i=>a.mem i && b.mem i) 256=a.inter b:=Cl.ext_mem _ _ fun i hi=>by
 rw [sF _ _ (aj _) _ hi,sM,dI hi,wF]
theorem jQ (f:Nat→Bool) (m n:Nat):(List.range (m+n)).countP f=(List.range m).countP f+(List.range n).countP fun i=>f (m+i):=by
 rw [List.range_add,List.countP_append,List.countP_map];rfl
theorem dN (c:Cl):c.size=((List.range 256).countP c.mem:Nat):=by
 have hx:∀x:UInt64,X (bA x)=((List.range 64).countP fun i=>x.toNat.testBit i:Nat):=fun x=>by
  show ((bA x).toNat:Int)=_;rw [I9.xL]
 have hq:∀q,(List.range 64).countP (fun i=>c.mem (64 * q+i))=(List.range 64).countP fun i=>(c.w q).toNat.testBit i:=fun q=>
  DY fun i hi=>by rw [c.rq q i (AL.1 hi)]
 unfold Cl.size;rw [hx,hx,hx,hx,show 256=64+(64+(64+64)) from rfl,jQ,jQ,jQ];have h0:=hq 0;have h1:=hq 1;have h2:=hq 2;have h3:=hq 3;simp only [Nat.mul_zero,tJ,Cn] at h0 h1 h2 h3;simp only [Cl.w] at h0 h1 h2 h3;have e2:(fun i=>c.mem (64+(64+i)))=fun i=>c.mem (64 * 2+i):=by funext i;congr 1;omega
 have e3:(fun i=>c.mem (64+(64+(64+i))))=fun i=>c.mem (64 * 3+i):=by funext i;congr 1;omega
 rw [e2,e3,h1,h2,h3,h0];omega
theorem nD (c:Cl):0≤c.size:=by rw [dN];omega
theorem zk (c:Cl):c.size=256↔∀i,i<256→c.mem i=true:=by
 rw [dN]
 have e:(List.range 256).countP c.mem=256↔∀i∈List.range 256,c.mem i=true:=by
  have:=List.countP_eq_length (p:=c.mem) (l:=List.range 256)
  rwa [List.length_range] at this
 constructor
 ·intro h i hi;exact e.1 (by omega) i (AL.2 hi)
 ·intro h;rw [e.2 fun i hi=>h i (AL.1 hi)];rfl
theorem Cc (f g:Nat→Bool) (l:List Nat):l.countP (fun i=>f i || g i)+l.countP (fun i=>f i && g i)=l.countP f+l.countP g:=by
 induction l with
 | nil=>rfl
 | cons a l ih=>
  simp only [List.countP_cons];cases f a<;>cases g a<;>simp<;>omega
theorem xg (a b:Cl):(a.union b).size+(a.inter b).size=a.size+b.size:=by
 rw [dN,dN,dN,dN];have h:=Cc a.mem b.mem (List.range 256);have e1:(List.range 256).countP (a.union b).mem=(List.range 256).countP fun i=>a.mem i || b.mem i:=DY fun i _=>by rw [mO]
 have e2:(List.range 256).countP (a.inter b).mem=(List.range 256).countP fun i=>a.mem i && b.mem i:=DY fun i _=>by rw [sM]
 rw [e1,e2];omega
theorem o7 (l:List Cl) (i:Nat):∀a:Cl,(l.foldl Cl.union a).mem i=(a.mem i || l.any fun c=>c.mem i):=by
 induction l with
 | nil=>intro a;simp
 | cons c l ih=>intro a;rw [BN,ih,mO,List.any_cons,Bool.or_assoc]
def Cl.zip (f:UInt64→UInt64→UInt64) (x y:Cl):Cl:=⟨f x.a y.a,f x.b y.b,f x.c y.c,f x.d y.d⟩
def Cl.non (x:Cl):Cl:=⟨~~~x.a,~~~x.b,~~~x.c,~~~x.d⟩
end
section
open Go.RowKit Mem
theorem Mem.dz {α:Type} {f:α→Value} {w:World} {l:List α} {P:Program} {fn:Func} {p t:Tmp} {ty:TypeId} (h:fn.results= #[.cell p ty, .tmp t]) (tmps:Array Value) (T:gB P ty l.length) (b off:Nat) (hp:tmps.getD p undef= .pointer (some ⟨b,off,none⟩)) (hat:At f w b off l):
  (results fn tmps).run P w= .ok (.tuple #[.agg (l.map f).toArray,tmps.getD t undef]) w:=by
 have hp':tmps[p]?.getD undef= .pointer (some ⟨b,off,none⟩):=by simpa using hp
 simp [results,h,hp',asAddr,eG T hat]
end
section
open Go Go.RowKit Mem
structure DF where
 cls:List Cl
 nx:List (List Nat)
 ac:List Bool
structure TB where
 cell:List Nat
 cells:Nat
 nx:List (List Nat)
 ac:List Bool
theorem uq:∀(l m:List Nat),l.Nodup→(∀x∈l,x∈m)→l.length≤m.length
 | [],_,_,_=>Nat.zero_le _
 | a::l,m,hn,hs=>by
  obtain ⟨h1,h2⟩:=List.nodup_cons.1 hn;have ha:a∈m:=hs a (by simp);have:=uq l (m.erase a) h2 fun x hx=>(List.mem_erase_of_ne (fun e:x=a=>h1 (by rw [← e];exact hx))).2 (hs x (by simp [hx]));rw [List.length_erase_of_mem ha] at this;have:=List.length_pos_of_mem ha;simp only [jM];omega
theorem zm (n:Nat) (l:List Nat) (hn:l.Nodup) (hb:∀x∈l,x<n):l.length≤n:=by
 have:=uq l (List.range n) hn fun x hx=>AL.2 (hb x hx)
 rwa [List.length_range] at this
structure DF.Ok (D:DF):Prop where
 c1:1≤D.cls.length
 Jk:D.cls.length≤256
 n1:1≤D.nx.length
 nn:D.nx.length≤65535
 ac:D.ac.length=D.nx.length
 rw:∀r∈D.nx,r.length=D.cls.length
 rb:∀r∈D.nx,∀t∈r,t<D.nx.length
structure TB.Ok (T:TB):Prop where
 cl:T.cell.length=256
 Jk:T.cells≤256
 cb:∀x∈T.cell,x<T.cells
 n1:1≤T.nx.length
 nn:T.nx.length≤65535
 ac:T.ac.length=T.nx.length
 rw:∀r∈T.nx,r.length=T.cells
 rb:∀r∈T.nx,∀t∈r,t<T.nx.length
def addN (l:List Nat) (t:Nat):List Nat:=if t∈l then l else l++[t]
structure yj (n:Nat) (l:List Nat):Prop where
 nd:l.Nodup
 lt:∀x∈l,x<n
 ne:1≤l.length
theorem yj.len {n:Nat} {l:List Nat} (h:yj n l):l.length≤n:=zm n l h.nd h.lt
theorem yj.add {n:Nat} {l:List Nat} (h:yj n l) {t:Nat} (ht:t<n):yj n (addN l t):=by
 unfold addN;split
 ·exact h
 ·rename_i hm;refine ⟨List.nodup_append.2 ⟨h.nd,by simp,fun a ha b hb e=>hm (by rw [← vT.1 hb,← e];exact ha)⟩,fun x hx=> ?_,by simp⟩;rcases EE.1 hx with h' | h'
  ·exact h.lt x h'
  ·rw [vT.1 h'];exact ht
theorem yj.one {n:Nat} (h:1≤n):yj n [0]:=⟨by simp,by simp;omega,by simp⟩
def qY (nx:List (List Nat)) (bl:List Nat) (s:Nat):List Nat:=bl.getD s 0::(nx.getD s []).map fun t=>bl.getD t 0
structure RS where
 ks:List (List Nat)
 rs:List Nat
 yL:List Nat
def Gj (nx:List (List Nat)) (bl:List Nat) (st:RS) (s:Nat):RS:=
 if qY nx bl s∈st.ks then {st with yL:=st.yL.set s (st.ks.idxOf (qY nx bl s))} else ⟨st.ks++[qY nx bl s],st.rs++[s],st.yL.set s st.ks.length⟩
def Kl (n:Nat):RS:=⟨[],[],List.replicate n 0⟩
def jO (nx:List (List Nat)) (bl:List Nat) (n:Nat) (l:List Nat):RS:=l.foldl (Gj nx bl) (Kl n)
def Gh (nx:List (List Nat)) (n:Nat) (l:List Nat):Nat→List Nat→Nat→List Nat×List Nat
 | 0,bl,_=>(bl,[])
 | f+1,bl,c=>if (jO nx bl n l).rs.length=c then ((jO nx bl n l).yL,(jO nx bl n l).rs) else Gh nx n l f (jO nx bl n l).yL (jO nx bl n l).rs.length
def G7 (ac:List Bool) (b:List Nat) (s:Nat):List Nat:=if ac.getD s false=true then b.set s 1 else b
def Ku (ac:List Bool) (n:Nat) (l:List Nat):List Nat:=l.foldl (G7 ac) (List.replicate n 0)
def TB.refine (T:TB) (l:List Nat):List Nat×List Nat:=Gh T.nx T.nx.length l (l.length+1) (Ku T.ac T.nx.length l) 0
structure RS.Ok (nx:List (List Nat)) (bl:List Nat) (n:Nat) (l:List Nat) (st:RS):Prop where
 len:st.rs.length=st.ks.length
 le:st.rs.length≤l.length
 nl:st.yL.length=n
 nb:∀x∈st.yL,x<max st.ks.length 1
 mem:∀x∈st.rs,x∈l
 has:∀s∈l,qY nx bl s∈st.ks
 hit:∀i,i<st.rs.length→∃s∈l,st.yL.getD s 0=i
structure MS where
 ks:List (List Nat)
 cells:List Nat
 cls:List Cl
 of:List Int
structure MS.Ok (n k:Nat) (st:MS):Prop where
 cl:st.cells.length=st.ks.length
 cc:st.cls.length=st.ks.length
 ol:st.of.length=n
 ob:∀x∈st.of,x<st.ks.length
 cb:∀x∈st.cells,x<n
 le:st.ks.length≤k
structure CS where
 ord:List Nat
 place:List Int
 row:List Nat
structure CA where
 st:CS
 nx:List (List Nat)
 ac:List Bool
structure CS.Ok (n:Nat) (st:CS):Prop where
 o:yj n st.ord
 pl:st.place.length=n
 pb:∀t,t<n→st.place.getD t 0<st.ord.length
 pm:∀t,t<n→(st.place.getD t 0<0→t∉st.ord)
 rb:∀x∈st.row,x<st.ord.length
structure CA.Ok (n m i:Nat) (a:CA):Prop where
 st:a.st.Ok n
 il:i≤a.st.ord.length
 nl:a.nx.length=i
 al:a.ac.length=i
 rl:∀r∈a.nx,r.length=m
 rb:∀r∈a.nx,∀t∈r,t<a.st.ord.length
end
end Go.Proofs.YtngjelolnfgnbaaGreatDoor
