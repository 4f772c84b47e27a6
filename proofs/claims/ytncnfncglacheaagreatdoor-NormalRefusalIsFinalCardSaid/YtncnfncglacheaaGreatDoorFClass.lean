/- Part of a proof. -/
import Derived.Test.YtncnfncglacheaaGreatDoorFHeldD
set_option linter.all false
set_option maxRecDepth 100000
set_option maxHeartbeats 64000000
namespace Go.Proofs.YtncnfncglacheaaGreatDoor
section
open Go Go.RowKit Mem
structure Cl where
 a:UInt64
 b:UInt64
 c:UInt64
 d:UInt64
deriving DecidableEq
abbrev ax (c:Cl):Array Value:= #[.int .u64 (X c.a), .int .u64 (X c.b), .int .u64 (X c.c), .int .u64 (X c.d)]
def aJ (c:Cl):List OC:=[ow (X c.a),ow (X c.b),ow (X c.c),ow (X c.d)]
theorem ay:bU Tryz.prog 65 4:=⟨fun _=>by kernel_rfl,fun _=>by kernel_rfl⟩
theorem qg (x:UInt64):X (gB x)≤127:=by
 have h:∀y:UInt64,X (y &&& 127)≤127:=by
  intro y;have h2:(y &&& 127).toNat<2 ^ 7:=by rw [Ra];exact Nat.and_lt_two_pow _ (by decide)
  unfold X;omega
 exact h _
def Cl.size (c:Cl):Int:=X (gB c.a)+X (gB c.b)+X (gB c.c)+X (gB c.d)
theorem CZ (w:World) (c:Cl):Calls Tryz.prog 56 #[.agg (ax c)] w fun e w'=>e= .returned (.int .i64 c.size)∧Below w.heap.size w w':=by
 have x0:∀w,(Instr.index 65 (.agg (ax c)) (.int .i64 0)).run Tryz.prog w= .ok (.int .u64 (X c.a)) w:=fun w=>by first | rfl | kernel_rfl
 have x1:∀w,(Instr.index 65 (.agg (ax c)) (.int .i64 1)).run Tryz.prog w= .ok (.int .u64 (X c.b)) w:=fun w=>by first | rfl | kernel_rfl
 have x2:∀w,(Instr.index 65 (.agg (ax c)) (.int .i64 2)).run Tryz.prog w= .ok (.int .u64 (X c.c)) w:=fun w=>by first | rfl | kernel_rfl
 have x3:∀w,(Instr.index 65 (.agg (ax c)) (.int .i64 3)).run Tryz.prog w= .ok (.int .u64 (X c.d)) w:=fun w=>by first | rfl | kernel_rfl
 have hr:Row oV (w.alloc (.cells (ax c) 65)) w.heap.size 65 (aJ c):=Row.new _ _ rfl;have hB:Below w.heap.size w (w.alloc (.cells (ax c) 65)):=(au _ _).alloc (ah _) _;go_enter Tryz.func56,Tryz.ntmps56
 go_wp2_with (first
  | ((with_reducible refine zL hr.at ay rfl (C:=ax c) ?_)))
 generalize (w.alloc (.cells (ax c) 65))=W at hB ⊢;clear hr;have b1:=qg c.a;have b2:=qg c.b;have b3:=qg c.c;have b4:=qg c.d;have n1:=fM (gB c.a);have n2:=fM (gB c.b);have n3:=fM (gB c.c);have n4:=fM (gB c.d);have w1:wrap64 (X (gB c.a))=X (gB c.a):=by unfold wrap64;omega
 have w2:wrap64 (X (gB c.a)+X (gB c.b))=X (gB c.a)+X (gB c.b):=by unfold wrap64;omega
 have w3:wrap64 (X (gB c.a)+X (gB c.b)+X (gB c.c))=X (gB c.a)+X (gB c.b)+X (gB c.c):=by unfold wrap64;omega
 have w4:wrap64 (X (gB c.a)+X (gB c.b)+X (gB c.c)+X (gB c.d))=X (gB c.a)+X (gB c.b)+X (gB c.c)+X (gB c.d):=by unfold wrap64;omega
 refine uT 5 ?_;refine ak (n:=4) ?_;go_wp2_with fail;refine (onesCount _ c.a).mono ?_;rintro e W0 ⟨rfl,rfl⟩;go_wp2_with fail;refine ak (n:=3) ?_;go_wp2_with fail;refine (onesCount _ c.b).mono ?_;rintro e W1 ⟨rfl,rfl⟩;go_wp2_with fail;refine ak (n:=2) ?_;go_wp2_with fail;refine (onesCount _ c.c).mono ?_;rintro e W2 ⟨rfl,rfl⟩;go_wp2_with fail;refine ak (n:=1) ?_;go_wp2_with fail;refine (onesCount _ c.d).mono ?_;rintro e W3 ⟨rfl,rfl⟩;go_wp2_with fail;refine ak (n:=0) ?_;go_wp2;go_ret;exact ⟨rfl,hB⟩
def Cl.w (c:Cl) (i:Nat):UInt64:=match i with | 0=>c.a | 1=>c.b | 2=>c.c | _=>c.d
def Cl.has (c:Cl) (b:UInt8):Bool:=c.w (b.toNat / 64) &&& ((1:UInt64)<<<UInt64.ofNat (b.toNat % 64)) !=0
theorem yJ (c:Cl) (q:Nat) (h:q<4):(aJ c)[q]?=some (ow (X (c.w q))):=by
 rcases (by omega:q=0∨q=1∨q=2∨q=3) with rfl | rfl | rfl | rfl<;>rfl
theorem Jc (r:Nat) (h:r<64):IntKind.u64.wrap ((2:Int) ^ r)=X ((1:UInt64)<<<UInt64.ofNat r):=by
 unfold X;rw [qcQ,UInt64.toNat_shiftLeft,Nat.shiftLeft_eq];have h1:(UInt64.ofNat r).toNat % 64=r:=by rw [qc8 (by simp [UInt64.size];omega)];omega
 rw [h1,show (1:UInt64).toNat=1 from rfl,TQ];simp
theorem Yb (x:UInt64) (r:Nat) (h:r<64):(bits .and .u64 (X x) (IntKind.u64.wrap ((2:Int) ^ r)) !=0)=(x &&& ((1:UInt64)<<<UInt64.ofNat r) !=0):=by
 rw [Jc r h,qm];generalize x &&& _=y;have:X y=0↔y=0:=⟨fun h=>rZ (y:=0) h,fun h=>by rw [h];rfl⟩
 rw [AL];simp [this]
theorem TS (w:World) (c:Cl) (b:UInt8):Calls Tryz.prog 118 #[.agg (ax c), .int .u8 (b.toNat:Int)] w fun e w'=>e= .returned (.bool (c.has b))∧Below w.heap.size w w':=by
 obtain ⟨q,r,hq,hr,hn⟩:∃q r,q<4∧r<64∧b.toNat=64 * q+r:=⟨b.toNat / 64,b.toNat % 64,by have:=b.toNat_lt;omega,by omega,by omega⟩
 have hh:c.has b=(c.w q &&& ((1:UInt64)<<<UInt64.ofNat r) !=0):=by
  unfold Cl.has;rw [show b.toNat / 64=q by omega,show b.toNat % 64=r by omega]
 rw [hh];have hrow:Row oV (w.alloc (.cells (ax c) 65)) w.heap.size 65 (aJ c):=Row.new _ _ rfl;have hB:Below w.heap.size w (w.alloc (.cells (ax c) 65)):=(au _ _).alloc (ah _) _;have hc:(w.alloc (.cells (ax c) 65)).cell? ⟨w.heap.size,q,none⟩=some (.int .u64 (X (c.w q))):=by rw [hrow.cell?,yJ c q hq];rfl
 have d1:((b.toNat:Int)).tdiv 64=(q:Int):=by rw [hn,Yx (by omega)];omega
 have d2:((b.toNat:Int)).tmod 64=(r:Int):=by rw [hn,LG (by omega)];omega
 have d3:(b.toNat:Int) / 64=(q:Int):=by omega
 have d4:(b.toNat:Int) % 64=(r:Int):=by omega
 clear hn hrow hh;go_enter Tryz.func118,Tryz.ntmps118;go_upto_region 1 with (fail);generalize (w.alloc (.cells (ax c) 65))=W at hB hc ⊢;have hq':(q:Int)<4:=by omega
 go_wp2_with fail;go_ret;exact ⟨by rw [← Yb _ r hr];rfl,hB⟩
theorem ai {B:Nat} {a w:World} (h:Below B a w) (hB:B≤a.heap.size) (o:Obj):Below B a (w.alloc o):=h.alloc (aL hB h.size) o
theorem WA (w:World) (x y:UInt64):Calls Tryz.prog 95 #[.int .u64 (X x), .int .u64 (X y)] w fun e w'=>e= .returned (.int .u64 (X (x ||| y)))∧w'=w:=by
 have h:=I8 x y;go_enter Tryz.func95,Tryz.ntmps95;go_wp2;go_ret;exact ⟨rfl,rfl⟩
def Cl.union (x y:Cl):Cl:=⟨x.a ||| y.a,x.b ||| y.b,x.c ||| y.c,x.d ||| y.d⟩
abbrev fV:Array Value:= #[.int .u64 0, .int .u64 0, .int .u64 0, .int .u64 0]
theorem Ud (w:World) (x y:Cl):Calls Tryz.prog 94 #[.agg (ax x), .agg (ax y), .func (.func 95) #[] #[]] w fun e w'=>e= .returned (.agg (ax (x.union y)))∧Below w.heap.size w w':=by
 go_enter Tryz.func94,Tryz.ntmps94;go_upto_region 2 with (fail)
 obtain ⟨W,hW,hB,hs,r0,r1,r2,r3⟩:∃W,((((w.alloc (.cells (ax x) 65)).alloc (.cells (ax y) 65)).alloc (.cells fV 65)).alloc (.cells fV 65))=W∧Below w.heap.size w W∧W.heap.size=w.heap.size+4∧W.heap[w.heap.size]?=some (.cells (ax x) 65 (0,0))∧W.heap[w.heap.size+1]?=some (.cells (ax y) 65 (0,0))∧W.heap[w.heap.size+1+1]?=some (.cells fV 65 (0,0))∧W.heap[w.heap.size+1+1+1]?=some (.cells fV 65 (0,0)):=by
  refine ⟨_,rfl,?_,by simp,?_,?_,?_,?_⟩
  ·exact ai (ai (ai (ai (au _ _) (ah _) _) (ah _) _) (ah _) _) (ah _) _
  all_goals repeat (first | (refine dH _ _ _ ?_;(simp;done)) | (refine (pM _ _ _ ?_).trans ?_;·(simp<;>omega)))
 rw [hW];clear hW;replace r0:Row oV W w.heap.size 65 (aJ x):=r0;replace r1:Row oV W (w.heap.size+1) 65 (aJ y):=r1;replace r2:Row oV W (w.heap.size+1+1) 65 [ow 0,ow 0,ow 0,ow 0]:=r2;replace r3:Row oV W (w.heap.size+1+1+1) 65 [ow 0,ow 0,ow 0,ow 0]:=r3;have hs':w.heap.size+4≤W.heap.size:=Iq hs.symm;clear hs;go_wp2_with fail;refine uT 5 ?_;refine ak (n:=4) ?_;go_upto_region 5 with (fail);have ha:∀X,Below W.heap.size W X→X.cell? ⟨w.heap.size,0,none⟩=some (.int .u64 (Go.Proofs.YtncnfncglacheaaGreatDoor.X x.a)):=fun X h=>by rw [(r0.below h r0.lt).cell?];rfl
 have hb:∀X,Below W.heap.size W X→X.cell? ⟨w.heap.size+1,0,none⟩=some (.int .u64 (Go.Proofs.YtncnfncglacheaaGreatDoor.X y.a)):=fun X h=>by rw [(r1.below h r1.lt).cell?];rfl
 refine aH (S:=fun X=>Below W.heap.size W X) 9 rfl (by kernel_rfl) (au _ _).drew fun hS=> ?_;refine tk 0 12 (.int .i64 0) hS ?_;refine tk 1 13 (.func (.func 95) #[] #[]) hS ?_;refine tk 2 14 (.int .i64 0) hS ?_;refine tk 3 15 (.pointer (some ⟨w.heap.size,0,none⟩)) hS ?_;refine tk 4 16 (.int .u64 (X x.a)) hS ?_ rfl (qi fun W' h=>by have q0:=ha W' h;have q1:=hb W' h;go_simp);refine tk 5 17 (.int .i64 0) hS ?_;refine tk 6 18 (.pointer (some ⟨w.heap.size+1,0,none⟩)) hS ?_;refine tk 7 19 (.int .u64 (X y.a)) hS ?_ rfl (qi fun W' h=>by have q0:=ha W' h;have q1:=hb W' h;go_simp);refine iZ 8 (fun K' hK=> ?_);refine cD 20 95 #[.int .u64 (X x.a), .int .u64 (X y.a)] ?_;refine (WA _ x.a y.a).mono ?_;rintro e Wa ⟨rfl,rfl⟩;refine ⟨_,rfl,hK.out _ _ hS fun _=> ?_⟩;clear hK ha hb;simp only [sA,sB,sC];refine aP (by kernel_rfl) ?_;simp only [List.drop];replace r0:=r0.drew;replace r1:=r1.drew;replace r2:=r2.drew;replace r3:=r3.drew;replace hB:=hB.drew;replace hs':w.heap.size+4≤W.drew.heap.size:=hs';clear hS;generalize W.drew=Y at *;have e3:Y.cell? ⟨w.heap.size+1+1+1,0,none⟩=some (.int .u64 0):=by rw [r3.cell?];rfl
 have f3:=r3.frozen 0;go_wp2_with fail;replace r3:Row oV (Y.setCell ⟨w.heap.size+1+1+1,0,none⟩ (.int .u64 (X (x.a ||| y.a)))) (w.heap.size+1+1+1) 65 [ow (X (x.a ||| y.a)),ow 0,ow 0,ow 0]:=r3.set 0 (ow (X (x.a ||| y.a)));replace r0:=r0.aj (b':=w.heap.size+1+1+1) (by omega) 0 (.int .u64 (X (x.a ||| y.a)));replace r1:=r1.aj (b':=w.heap.size+1+1+1) (by omega) 0 (.int .u64 (X (x.a ||| y.a)));replace r2:=r2.aj (b':=w.heap.size+1+1+1) (by omega) 0 (.int .u64 (X (x.a ||| y.a)));replace hB:=aQ hB (b:=w.heap.size+1+1+1) 0 (by omega) (.int .u64 (X (x.a ||| y.a)));replace hs':w.heap.size+4≤(Y.setCell ⟨w.heap.size+1+1+1,0,none⟩ (.int .u64 (X (x.a ||| y.a)))).heap.size:=by simpa using hs'
 clear e3 f3;generalize (Y.setCell ⟨w.heap.size+1+1+1,0,none⟩ (.int .u64 (X (x.a ||| y.a))))=W at *;refine ak (n:=3) ?_;go_upto_region 5 with (fail);have ha:∀X,Below W.heap.size W X→X.cell? ⟨w.heap.size,1,none⟩=some (.int .u64 (Go.Proofs.YtncnfncglacheaaGreatDoor.X x.b)):=fun X h=>by rw [(r0.below h r0.lt).cell?];rfl
 have hb:∀X,Below W.heap.size W X→X.cell? ⟨w.heap.size+1,1,none⟩=some (.int .u64 (Go.Proofs.YtncnfncglacheaaGreatDoor.X y.b)):=fun X h=>by rw [(r1.below h r1.lt).cell?];rfl
 refine aH (S:=fun X=>Below W.heap.size W X) 9 rfl (by kernel_rfl) (au _ _).drew fun hS=> ?_;refine tk 0 12 (.int .i64 1) hS ?_;refine tk 1 13 (.func (.func 95) #[] #[]) hS ?_;refine tk 2 14 (.int .i64 1) hS ?_;refine tk 3 15 (.pointer (some ⟨w.heap.size,1,none⟩)) hS ?_;refine tk 4 16 (.int .u64 (X x.b)) hS ?_ rfl (qi fun W' h=>by have q0:=ha W' h;have q1:=hb W' h;go_simp);refine tk 5 17 (.int .i64 1) hS ?_;refine tk 6 18 (.pointer (some ⟨w.heap.size+1,1,none⟩)) hS ?_;refine tk 7 19 (.int .u64 (X y.b)) hS ?_ rfl (qi fun W' h=>by have q0:=ha W' h;have q1:=hb W' h;go_simp);refine iZ 8 (fun K' hK=> ?_);refine cD 20 95 #[.int .u64 (X x.b), .int .u64 (X y.b)] ?_;refine (WA _ x.b y.b).mono ?_;rintro e Wa ⟨rfl,rfl⟩;refine ⟨_,rfl,hK.out _ _ hS fun _=> ?_⟩;clear hK ha hb;simp only [sA,sB,sC];refine aP (by kernel_rfl) ?_;simp only [List.drop];replace r0:=r0.drew;replace r1:=r1.drew;replace r2:=r2.drew;replace r3:=r3.drew;replace hB:=hB.drew;replace hs':w.heap.size+4≤W.drew.heap.size:=hs';clear hS;generalize W.drew=Y at *;have e3:Y.cell? ⟨w.heap.size+1+1+1,1,none⟩=some (.int .u64 0):=by rw [r3.cell?];rfl
 have f3:=r3.frozen 1;go_wp2_with fail;replace r3:Row oV (Y.setCell ⟨w.heap.size+1+1+1,1,none⟩ (.int .u64 (X (x.b ||| y.b)))) (w.heap.size+1+1+1) 65 [ow (X (x.a ||| y.a)),ow (X (x.b ||| y.b)),ow 0,ow 0]:=r3.set 1 (ow (X (x.b ||| y.b)));replace r0:=r0.aj (b':=w.heap.size+1+1+1) (by omega) 1 (.int .u64 (X (x.b ||| y.b)));replace r1:=r1.aj (b':=w.heap.size+1+1+1) (by omega) 1 (.int .u64 (X (x.b ||| y.b)));replace r2:=r2.aj (b':=w.heap.size+1+1+1) (by omega) 1 (.int .u64 (X (x.b ||| y.b)));replace hB:=aQ hB (b:=w.heap.size+1+1+1) 1 (by omega) (.int .u64 (X (x.b ||| y.b)));replace hs':w.heap.size+4≤(Y.setCell ⟨w.heap.size+1+1+1,1,none⟩ (.int .u64 (X (x.b ||| y.b)))).heap.size:=by simpa using hs'
 clear e3 f3;generalize (Y.setCell ⟨w.heap.size+1+1+1,1,none⟩ (.int .u64 (X (x.b ||| y.b))))=W at *;refine ak (n:=2) ?_;go_upto_region 5 with (fail);have ha:∀X,Below W.heap.size W X→X.cell? ⟨w.heap.size,2,none⟩=some (.int .u64 (Go.Proofs.YtncnfncglacheaaGreatDoor.X x.c)):=fun X h=>by rw [(r0.below h r0.lt).cell?];rfl
 have hb:∀X,Below W.heap.size W X→X.cell? ⟨w.heap.size+1,2,none⟩=some (.int .u64 (Go.Proofs.YtncnfncglacheaaGreatDoor.X y.c)):=fun X h=>by rw [(r1.below h r1.lt).cell?];rfl
 refine aH (S:=fun X=>Below W.heap.size W X) 9 rfl (by kernel_rfl) (au _ _).drew fun hS=> ?_;refine tk 0 12 (.int .i64 2) hS ?_;refine tk 1 13 (.func (.func 95) #[] #[]) hS ?_;refine tk 2 14 (.int .i64 2) hS ?_;refine tk 3 15 (.pointer (some ⟨w.heap.size,2,none⟩)) hS ?_;refine tk 4 16 (.int .u64 (X x.c)) hS ?_ rfl (qi fun W' h=>by have q0:=ha W' h;have q1:=hb W' h;go_simp);refine tk 5 17 (.int .i64 2) hS ?_;refine tk 6 18 (.pointer (some ⟨w.heap.size+1,2,none⟩)) hS ?_;refine tk 7 19 (.int .u64 (X y.c)) hS ?_ rfl (qi fun W' h=>by have q0:=ha W' h;have q1:=hb W' h;go_simp);refine iZ 8 (fun K' hK=> ?_);refine cD 20 95 #[.int .u64 (X x.c), .int .u64 (X y.c)] ?_;refine (WA _ x.c y.c).mono ?_;rintro e Wa ⟨rfl,rfl⟩;refine ⟨_,rfl,hK.out _ _ hS fun _=> ?_⟩;clear hK ha hb;simp only [sA,sB,sC];refine aP (by kernel_rfl) ?_;simp only [List.drop];replace r0:=r0.drew;replace r1:=r1.drew;replace r2:=r2.drew;replace r3:=r3.drew;replace hB:=hB.drew;replace hs':w.heap.size+4≤W.drew.heap.size:=hs';clear hS;generalize W.drew=Y at *;have e3:Y.cell? ⟨w.heap.size+1+1+1,2,none⟩=some (.int .u64 0):=by rw [r3.cell?];rfl
 have f3:=r3.frozen 2;go_wp2_with fail;replace r3:Row oV (Y.setCell ⟨w.heap.size+1+1+1,2,none⟩ (.int .u64 (X (x.c ||| y.c)))) (w.heap.size+1+1+1) 65 [ow (X (x.a ||| y.a)),ow (X (x.b ||| y.b)),ow (X (x.c ||| y.c)),ow 0]:=r3.set 2 (ow (X (x.c ||| y.c)));replace r0:=r0.aj (b':=w.heap.size+1+1+1) (by omega) 2 (.int .u64 (X (x.c ||| y.c)));replace r1:=r1.aj (b':=w.heap.size+1+1+1) (by omega) 2 (.int .u64 (X (x.c ||| y.c)));replace r2:=r2.aj (b':=w.heap.size+1+1+1) (by omega) 2 (.int .u64 (X (x.c ||| y.c)));replace hB:=aQ hB (b:=w.heap.size+1+1+1) 2 (by omega) (.int .u64 (X (x.c ||| y.c)));replace hs':w.heap.size+4≤(Y.setCell ⟨w.heap.size+1+1+1,2,none⟩ (.int .u64 (X (x.c ||| y.c)))).heap.size:=by simpa using hs'
 clear e3 f3;generalize (Y.setCell ⟨w.heap.size+1+1+1,2,none⟩ (.int .u64 (X (x.c ||| y.c))))=W at *;refine ak (n:=1) ?_;go_upto_region 5 with (fail);have ha:∀X,Below W.heap.size W X→X.cell? ⟨w.heap.size,3,none⟩=some (.int .u64 (Go.Proofs.YtncnfncglacheaaGreatDoor.X x.d)):=fun X h=>by rw [(r0.below h r0.lt).cell?];rfl
 have hb:∀X,Below W.heap.size W X→X.cell? ⟨w.heap.size+1,3,none⟩=some (.int .u64 (Go.Proofs.YtncnfncglacheaaGreatDoor.X y.d)):=fun X h=>by rw [(r1.below h r1.lt).cell?];rfl
 refine aH (S:=fun X=>Below W.heap.size W X) 9 rfl (by kernel_rfl) (au _ _).drew fun hS=> ?_;refine tk 0 12 (.int .i64 3) hS ?_;refine tk 1 13 (.func (.func 95) #[] #[]) hS ?_;refine tk 2 14 (.int .i64 3) hS ?_;refine tk 3 15 (.pointer (some ⟨w.heap.size,3,none⟩)) hS ?_;refine tk 4 16 (.int .u64 (X x.d)) hS ?_ rfl (qi fun W' h=>by have q0:=ha W' h;have q1:=hb W' h;go_simp);refine tk 5 17 (.int .i64 3) hS ?_;refine tk 6 18 (.pointer (some ⟨w.heap.size+1,3,none⟩)) hS ?_;refine tk 7 19 (.int .u64 (X y.d)) hS ?_ rfl (qi fun W' h=>by have q0:=ha W' h;have q1:=hb W' h;go_simp);refine iZ 8 (fun K' hK=> ?_);refine cD 20 95 #[.int .u64 (X x.d), .int .u64 (X y.d)] ?_;refine (WA _ x.d y.d).mono ?_;rintro e Wa ⟨rfl,rfl⟩;refine ⟨_,rfl,hK.out _ _ hS fun _=> ?_⟩;clear hK ha hb;simp only [sA,sB,sC];refine aP (by kernel_rfl) ?_;simp only [List.drop];replace r0:=r0.drew;replace r1:=r1.drew;replace r2:=r2.drew;replace r3:=r3.drew;replace hB:=hB.drew;replace hs':w.heap.size+4≤W.drew.heap.size:=hs';clear hS;generalize W.drew=Y at *;have e3:Y.cell? ⟨w.heap.size+1+1+1,3,none⟩=some (.int .u64 0):=by rw [r3.cell?];rfl
 have f3:=r3.frozen 3;go_wp2_with fail;replace r3:Row oV (Y.setCell ⟨w.heap.size+1+1+1,3,none⟩ (.int .u64 (X (x.d ||| y.d)))) (w.heap.size+1+1+1) 65 [ow (X (x.a ||| y.a)),ow (X (x.b ||| y.b)),ow (X (x.c ||| y.c)),ow (X (x.d ||| y.d))]:=r3.set 3 (ow (X (x.d ||| y.d)));replace r0:=r0.aj (b':=w.heap.size+1+1+1) (by omega) 3 (.int .u64 (X (x.d ||| y.d)));replace r1:=r1.aj (b':=w.heap.size+1+1+1) (by omega) 3 (.int .u64 (X (x.d ||| y.d)));replace r2:=r2.aj (b':=w.heap.size+1+1+1) (by omega) 3 (.int .u64 (X (x.d ||| y.d)));replace hB:=aQ hB (b:=w.heap.size+1+1+1) 3 (by omega) (.int .u64 (X (x.d ||| y.d)));replace hs':w.heap.size+4≤(Y.setCell ⟨w.heap.size+1+1+1,3,none⟩ (.int .u64 (X (x.d ||| y.d)))).heap.size:=by simpa using hs'
 clear e3 f3;generalize (Y.setCell ⟨w.heap.size+1+1+1,3,none⟩ (.int .u64 (X (x.d ||| y.d))))=W at *;refine ak (n:=0) ?_
 go_wp2_with (first
  | ((with_reducible refine zL (Row.at r3) ay rfl (C:=ax (x.union y)) ?_))
  | ((with_reducible refine zS (l':=aJ (x.union y)) r2 ay ?_);(intro W6 hs6 dw gP)))
 refine fJ (aR (f:=oV) (l:=aJ (x.union y)) rfl _ ay (w.heap.size+1+1) 0 rfl hs6.at) rfl ?_;exact ⟨rfl,hB.grown dw hB.size (fun k e=>by cases e;omega)⟩
theorem Ja (w:World) (x y:Cl):Calls Tryz.prog 57 #[.agg (ax x), .agg (ax y)] w fun e w'=>e= .returned (.agg (ax (x.union y)))∧Below w.heap.size w w':=by
 go_enter Tryz.func57,Tryz.ntmps57;go_upto_region 1 with (fail)
 obtain ⟨W,hW,hB,hs,r0,r1,r2⟩:∃W,(((w.alloc (.cells (ax x) 65)).alloc (.cells (ax y) 65)).alloc (.cells fV 65))=W∧Below w.heap.size w W∧W.heap.size=w.heap.size+3∧W.heap[w.heap.size]?=some (.cells (ax x) 65 (0,0))∧W.heap[w.heap.size+1]?=some (.cells (ax y) 65 (0,0))∧W.heap[w.heap.size+1+1]?=some (.cells fV 65 (0,0)):=by
  refine ⟨_,rfl,?_,by simp,?_,?_,?_⟩
  ·exact ai (ai (ai (au _ _) (ah _) _) (ah _) _) (ah _) _
  all_goals repeat (first | (refine dH _ _ _ ?_;(simp;done)) | (refine (pM _ _ _ ?_).trans ?_;·(simp<;>omega)))
 rw [hW];clear hW;replace r0:Row oV W w.heap.size 65 (aJ x):=r0;replace r1:Row oV W (w.heap.size+1) 65 (aJ y):=r1;replace r2:Row oV W (w.heap.size+1+1) 65 [ow 0,ow 0,ow 0,ow 0]:=r2;have hs':w.heap.size+3≤W.heap.size:=Iq hs.symm;clear hs
 go_wp2_with (first
  | ((with_reducible refine zL r0.at ay rfl (C:=ax x) ?_))
  | ((with_reducible refine zL r1.at ay rfl (C:=ax y) ?_)))
 refine (Ud W x y).mono ?_;rintro e W2 ⟨rfl,hB2⟩;replace r2:=r2.below hB2 r2.lt;replace hB:=hB.trans (hB2.mono hB.size)
 go_wp2_with (first
  | ((with_reducible refine zS (l':=aJ (x.union y)) r2 ay ?_);(intro W6 hs6 dw gP)))
 refine fJ (aR (f:=oV) (l:=aJ (x.union y)) rfl _ ay (w.heap.size+1+1) 0 rfl hs6.at) rfl ?_;exact ⟨rfl,hB.grown dw hB.size (fun k e=>by cases e;omega)⟩
def Cl.mem (c:Cl) (i:Nat):Bool:=(c.w (i / 64)).toNat.testBit (i % 64)
theorem ZY (r:Nat) (h:r<64):((1:UInt64)<<<UInt64.ofNat r).toNat=2 ^ r:=by
 rw [UInt64.toNat_shiftLeft,Nat.shiftLeft_eq];have h1:(UInt64.ofNat r).toNat % 64=r:=by rw [qc8 (by simp [UInt64.size];omega)];omega
 rw [h1,show (1:UInt64).toNat=1 from rfl,TQ];exact qdq (Nat.pow_lt_pow_right (by omega) h)
theorem acu (x y:UInt64) (h:∀i,i<64→x.toNat.testBit i=y.toNat.testBit i):x=y:=by
 apply Ub.1;apply Nat.eq_of_testBit_eq;intro i;rcases Ik i 64 with hi | hi
 ·exact h i hi
 ·have hp:2 ^ 64≤2 ^ i:=Nat.pow_le_pow_right (by omega) hi;rw [Nat.testBit_lt_two_pow (bO x.toNat_lt hp),Nat.testBit_lt_two_pow (bO y.toNat_lt hp)]
theorem Cl.zm (c:Cl) (q i:Nat) (hi:i<64):c.mem (64 * q+i)=(c.w q).toNat.testBit i:=by
 unfold Cl.mem;rw [show (64 * q+i) / 64=q by omega,show (64 * q+i) % 64=i by omega]
theorem Cl.ext_mem (c d:Cl) (h:∀i,i<256→c.mem i=d.mem i):c=d:=by
 have hw:∀q,q<4→c.w q=d.w q:=fun q hq=>acu _ _ fun i hi=>by
  rw [← c.zm q i hi,← d.zm q i hi];exact h _ (by omega)
 have h0:=hw 0 (by omega);have h1:=hw 1 (by omega);have h2:=hw 2 (by omega);have h3:=hw 3 (by omega);cases c;cases d;simp only [Cl.w] at h0 h1 h2 h3;subst h0;subst h1;subst h2;subst h3;rfl
def Cl.setW (c:Cl) (q:Nat) (x:UInt64):Cl:=match q with | 0=>{c with a:=x} | 1=>{c with b:=x} | 2=>{c with c:=x} | _=>{c with d:=x}
theorem Cl.ac1 (c:Cl) (q p:Nat) (x:UInt64) (hq:q<4) (hp:p<4):(c.setW q x).w p=if p=q then x else c.w p:=by
 rcases (by omega:q=0∨q=1∨q=2∨q=3) with rfl | rfl | rfl | rfl<;>rcases (by omega:p=0∨p=1∨p=2∨p=3) with rfl | rfl | rfl | rfl<;>rfl
def Cl.add (c:Cl) (b:Nat):Cl:=c.setW (b / 64) (c.w (b / 64) ||| ((1:UInt64)<<<UInt64.ofNat (b % 64)))
theorem Cl.RB (c:Cl) (b i:Nat) (hb:b<256) (hi:i<256):(c.add b).mem i=(c.mem i || decide (i=b)):=by
 unfold Cl.add Cl.mem;rw [Cl.ac1 _ _ _ _ (by omega) (by omega)];by_cases h:i / 64=b / 64
 ·rw [aC h,UInt64.toNat_or,ZY _ (U9 _ (by omega)),Nat.testBit_or,Nat.testBit_two_pow,h];congr 1;by_cases h2:i=b
  ·subst h2;simp
  ·rw [jI h2,jI (by omega)]
 ·rw [aF h,jI (by intro e;subst e;exact h rfl),qdo]
abbrev bS:Cl:=⟨0,0,0,0⟩
theorem oP (i:Nat):bS.mem i=false:=by
 unfold Cl.mem;have:∀q,bS.w q=0:=fun q=>by unfold Cl.w;split<;>rfl
 rw [this];exact Nat.zero_testBit _
def di (p:Nat→Bool) (n:Nat):Cl:=(List.range n).foldl (fun c i=>if p i=true then c.add i else c) bS
theorem qc (p:Nat→Bool) (n:Nat):di p (n+1)=if p n=true then (di p n).add n else di p n:=by
 unfold di;rw [K7,SV];rfl
theorem UL (p:Nat→Bool) (n:Nat) (hn:n≤256) (i:Nat) (hi:i<256):(di p n).mem i=(decide (i<n) && p i):=by
 induction n with
 | zero=>rw [show di p 0=bS from rfl,oP];simp
 | succ n ih=>
  have ih:=ih (by omega);rw [qc];by_cases hp:p n=true
  ·rw [aC hp,Cl.RB _ _ _ (by omega) hi,ih];by_cases h:i=n
   ·subst h;simp [hp]
   ·have:decide (i<n+1)=decide (i<n):=qdr.2 (by omega);rw [this];simp [h]
  ·rw [aF hp,ih];by_cases h:i=n
   ·subst h;simp [hp]
   ·have:decide (i<n+1)=decide (i<n):=qdr.2 (by omega);rw [this]
def Cl.inter (a b:Cl):Cl:=⟨a.a &&& b.a,a.b &&& b.b,a.c &&& b.c,a.d &&& b.d⟩
theorem Aw (a b:Cl) (i:Nat):(a.union b).mem i=(a.mem i || b.mem i):=by
 unfold Cl.mem;have:(a.union b).w (i / 64)=a.w (i / 64) ||| b.w (i / 64):=by unfold Cl.w;split<;>rfl
 rw [this,UInt64.toNat_or,Nat.testBit_or]
theorem Ug (a b:Cl) (i:Nat):(a.inter b).mem i=(a.mem i && b.mem i):=by
 unfold Cl.mem;have:(a.inter b).w (i / 64)=a.w (i / 64) &&& b.w (i / 64):=by unfold Cl.w;split<;>rfl
 rw [this,Ra,Nat.testBit_and]
theorem QO (a b:Cl):di (fun i=>a.mem i || b.mem i) 256=a.union b:=Cl.ext_mem _ _ fun i hi=>by
 rw [UL _ _ (ah _) _ hi,Aw,nE hi,OT]
theorem Fx (l:List Cl) (i:Nat):∀a:Cl,(l.foldl Cl.union a).mem i=(a.mem i || l.any fun c=>c.mem i):=by
 induction l with
 | nil=>intro a;simp
 | cons c l ih=>intro a;rw [qc9,ih,Aw,List.any_cons,Bool.or_assoc]
def gD (l:List UInt8):Cl:=l.foldl (fun c b=>c.add b.toNat) bS
theorem Eb (l:List UInt8) (k:Nat) (h:k<l.length):gD (l.take (k+1))=(gD (l.take k)).add l[k].toNat:=by
 unfold gD;rw [AX h,SV];rfl
def Cl.zip (f:UInt64→UInt64→UInt64) (x y:Cl):Cl:=⟨f x.a y.a,f x.b y.b,f x.c y.c,f x.d y.d⟩
theorem Un (x:UInt64):bits .xor .u64 IntKind.u64.max (X x)=X (~~~x):=by
 unfold X;rw [show IntKind.u64.max=((18446744073709551615:Nat):Int) by decide,u64_xor_nat _ _ (by omega) (lX x)]
 have h:(18446744073709551615:UInt64) ^^^ x= ~~~x:=by
  apply UInt64.toBitVec_inj.1;rw [UInt64.toBitVec_xor,UInt64.toBitVec_not];exact BitVec.allOnes_xor
 rw [← h,UInt64.toNat_xor];rfl
theorem FT (x y:UInt64):bits .andNot .u64 (X x) (X y)=X (x &&& ~~~y):=by
 unfold X;rw [u64_andNot_nat _ _ (lX x) (lX y),Ra,UInt64.toNat_not];rfl
theorem afm (w:World) (x y:UInt64):Calls Tryz.prog 145 #[.int .u64 (X x), .int .u64 (X y)] w fun e w'=>e= .returned (.int .u64 (X (~~~x)))∧w'=w:=by
 have h1:=qm x y;have h2:=Un x;have h3:=FT x y;go_enter Tryz.func145,Tryz.ntmps145;go_wp2;go_ret;exact ⟨rfl,rfl⟩
theorem afj (w:World) (x y:UInt64):Calls Tryz.prog 144 #[.int .u64 (X x), .int .u64 (X y)] w fun e w'=>e= .returned (.int .u64 (X (x &&& y)))∧w'=w:=by
 have h1:=qm x y;have h2:=Un x;have h3:=FT x y;go_enter Tryz.func144,Tryz.ntmps144;go_wp2;go_ret;exact ⟨rfl,rfl⟩
theorem YY (w:World) (x y:UInt64):Calls Tryz.prog 256 #[.int .u64 (X x), .int .u64 (X y)] w fun e w'=>e= .returned (.int .u64 (X (x &&& ~~~y)))∧w'=w:=by
 have h1:=qm x y;have h2:=Un x;have h3:=FT x y;go_enter Tryz.func256,Tryz.ntmps256;go_wp2;go_ret;exact ⟨rfl,rfl⟩
theorem yD (g:Nat) (hg:g=145∨g=144∨g=256) (f:UInt64→UInt64→UInt64)
  (hf:∀(w:World) (x y:UInt64),Calls Tryz.prog g #[.int .u64 (X x), .int .u64 (X y)] w fun e w'=>e= .returned (.int .u64 (X (f x y)))∧w'=w)
  (w:World) (x y:Cl):Calls Tryz.prog 94 #[.agg (ax x), .agg (ax y), .func (.func g) #[] #[]] w fun e w'=>e= .returned (.agg (ax (Cl.zip f x y)))∧Below w.heap.size w w':=by
 go_enter Tryz.func94,Tryz.ntmps94;go_upto_region 2 with (fail)
 obtain ⟨W,hW,hB,hs,r0,r1,r2,r3⟩:∃W,((((w.alloc (.cells (ax x) 65)).alloc (.cells (ax y) 65)).alloc (.cells fV 65)).alloc (.cells fV 65))=W∧Below w.heap.size w W∧W.heap.size=w.heap.size+4∧W.heap[w.heap.size]?=some (.cells (ax x) 65 (0,0))∧W.heap[w.heap.size+1]?=some (.cells (ax y) 65 (0,0))∧W.heap[w.heap.size+1+1]?=some (.cells fV 65 (0,0))∧W.heap[w.heap.size+1+1+1]?=some (.cells fV 65 (0,0)):=by
  refine ⟨_,rfl,?_,by simp,?_,?_,?_,?_⟩
  ·exact ai (ai (ai (ai (au _ _) (ah _) _) (ah _) _) (ah _) _) (ah _) _
  all_goals repeat (first | (refine dH _ _ _ ?_;(simp;done)) | (refine (pM _ _ _ ?_).trans ?_;·(simp<;>omega)))
 rw [hW];clear hW;replace r0:Row oV W w.heap.size 65 (aJ x):=r0;replace r1:Row oV W (w.heap.size+1) 65 (aJ y):=r1;replace r2:Row oV W (w.heap.size+1+1) 65 [ow 0,ow 0,ow 0,ow 0]:=r2;replace r3:Row oV W (w.heap.size+1+1+1) 65 [ow 0,ow 0,ow 0,ow 0]:=r3;have hs':w.heap.size+4≤W.heap.size:=Iq hs.symm;clear hs;go_wp2_with fail;refine uT 5 ?_;refine ak (n:=4) ?_;go_upto_region 5 with (fail);have ha:∀X,Below W.heap.size W X→X.cell? ⟨w.heap.size,0,none⟩=some (.int .u64 (Go.Proofs.YtncnfncglacheaaGreatDoor.X x.a)):=fun X h=>by rw [(r0.below h r0.lt).cell?];rfl
 have hb:∀X,Below W.heap.size W X→X.cell? ⟨w.heap.size+1,0,none⟩=some (.int .u64 (Go.Proofs.YtncnfncglacheaaGreatDoor.X y.a)):=fun X h=>by rw [(r1.below h r1.lt).cell?];rfl
 refine aH (S:=fun X=>Below W.heap.size W X) 9 rfl (by kernel_rfl) (au _ _).drew fun hS=> ?_;refine tk 0 12 (.int .i64 0) hS ?_;refine tk 1 13 (.func (.func g) #[] #[]) hS ?_;refine tk 2 14 (.int .i64 0) hS ?_;refine tk 3 15 (.pointer (some ⟨w.heap.size,0,none⟩)) hS ?_;refine tk 4 16 (.int .u64 (X x.a)) hS ?_ rfl (qi fun W' h=>by have q0:=ha W' h;have q1:=hb W' h;go_simp);refine tk 5 17 (.int .i64 0) hS ?_;refine tk 6 18 (.pointer (some ⟨w.heap.size+1,0,none⟩)) hS ?_;refine tk 7 19 (.int .u64 (X y.a)) hS ?_ rfl (qi fun W' h=>by have q0:=ha W' h;have q1:=hb W' h;go_simp);refine iZ 8 (fun K' hK=> ?_);refine El (d:=20) (g:=g) (args:= #[.int .u64 (X x.a), .int .u64 (X y.a)]) rfl rfl (by rcases hg with rfl | rfl | rfl<;>first | kernel_rfl | (simp [execOp,resolve,invoke,Act.eval]) | go_simp) ?_;refine (hf _ x.a y.a).mono ?_;rintro e Wa ⟨rfl,rfl⟩;refine ⟨_,rfl,hK.out _ _ hS fun _=> ?_⟩;clear hK ha hb;simp only [sA,sB,sC];refine aP (by kernel_rfl) ?_;simp only [List.drop];replace r0:=r0.drew;replace r1:=r1.drew;replace r2:=r2.drew;replace r3:=r3.drew;replace hB:=hB.drew;replace hs':w.heap.size+4≤W.drew.heap.size:=hs';clear hS;generalize W.drew=Y at *;have e3:Y.cell? ⟨w.heap.size+1+1+1,0,none⟩=some (.int .u64 0):=by rw [r3.cell?];rfl
 have f3:=r3.frozen 0;go_wp2_with fail;replace r3:Row oV (Y.setCell ⟨w.heap.size+1+1+1,0,none⟩ (.int .u64 (X (f x.a y.a)))) (w.heap.size+1+1+1) 65 [ow (X (f x.a y.a)),ow 0,ow 0,ow 0]:=r3.set 0 (ow (X (f x.a y.a)));replace r0:=r0.aj (b':=w.heap.size+1+1+1) (by omega) 0 (.int .u64 (X (f x.a y.a)));replace r1:=r1.aj (b':=w.heap.size+1+1+1) (by omega) 0 (.int .u64 (X (f x.a y.a)));replace r2:=r2.aj (b':=w.heap.size+1+1+1) (by omega) 0 (.int .u64 (X (f x.a y.a)));replace hB:=aQ hB (b:=w.heap.size+1+1+1) 0 (by omega) (.int .u64 (X (f x.a y.a)));replace hs':w.heap.size+4≤(Y.setCell ⟨w.heap.size+1+1+1,0,none⟩ (.int .u64 (X (f x.a y.a)))).heap.size:=by simpa using hs'
 clear e3 f3;generalize (Y.setCell ⟨w.heap.size+1+1+1,0,none⟩ (.int .u64 (X (f x.a y.a))))=W at *;refine ak (n:=3) ?_;go_upto_region 5 with (fail);have ha:∀X,Below W.heap.size W X→X.cell? ⟨w.heap.size,1,none⟩=some (.int .u64 (Go.Proofs.YtncnfncglacheaaGreatDoor.X x.b)):=fun X h=>by rw [(r0.below h r0.lt).cell?];rfl
 have hb:∀X,Below W.heap.size W X→X.cell? ⟨w.heap.size+1,1,none⟩=some (.int .u64 (Go.Proofs.YtncnfncglacheaaGreatDoor.X y.b)):=fun X h=>by rw [(r1.below h r1.lt).cell?];rfl
 refine aH (S:=fun X=>Below W.heap.size W X) 9 rfl (by kernel_rfl) (au _ _).drew fun hS=> ?_;refine tk 0 12 (.int .i64 1) hS ?_;refine tk 1 13 (.func (.func g) #[] #[]) hS ?_;refine tk 2 14 (.int .i64 1) hS ?_;refine tk 3 15 (.pointer (some ⟨w.heap.size,1,none⟩)) hS ?_;refine tk 4 16 (.int .u64 (X x.b)) hS ?_ rfl (qi fun W' h=>by have q0:=ha W' h;have q1:=hb W' h;go_simp);refine tk 5 17 (.int .i64 1) hS ?_;refine tk 6 18 (.pointer (some ⟨w.heap.size+1,1,none⟩)) hS ?_;refine tk 7 19 (.int .u64 (X y.b)) hS ?_ rfl (qi fun W' h=>by have q0:=ha W' h;have q1:=hb W' h;go_simp);refine iZ 8 (fun K' hK=> ?_);refine El (d:=20) (g:=g) (args:= #[.int .u64 (X x.b), .int .u64 (X y.b)]) rfl rfl (by rcases hg with rfl | rfl | rfl<;>first | kernel_rfl | (simp [execOp,resolve,invoke,Act.eval]) | go_simp) ?_;refine (hf _ x.b y.b).mono ?_;rintro e Wa ⟨rfl,rfl⟩;refine ⟨_,rfl,hK.out _ _ hS fun _=> ?_⟩;clear hK ha hb;simp only [sA,sB,sC];refine aP (by kernel_rfl) ?_;simp only [List.drop];replace r0:=r0.drew;replace r1:=r1.drew;replace r2:=r2.drew;replace r3:=r3.drew;replace hB:=hB.drew;replace hs':w.heap.size+4≤W.drew.heap.size:=hs';clear hS;generalize W.drew=Y at *;have e3:Y.cell? ⟨w.heap.size+1+1+1,1,none⟩=some (.int .u64 0):=by rw [r3.cell?];rfl
 have f3:=r3.frozen 1;go_wp2_with fail;replace r3:Row oV (Y.setCell ⟨w.heap.size+1+1+1,1,none⟩ (.int .u64 (X (f x.b y.b)))) (w.heap.size+1+1+1) 65 [ow (X (f x.a y.a)),ow (X (f x.b y.b)),ow 0,ow 0]:=r3.set 1 (ow (X (f x.b y.b)));replace r0:=r0.aj (b':=w.heap.size+1+1+1) (by omega) 1 (.int .u64 (X (f x.b y.b)));replace r1:=r1.aj (b':=w.heap.size+1+1+1) (by omega) 1 (.int .u64 (X (f x.b y.b)));replace r2:=r2.aj (b':=w.heap.size+1+1+1) (by omega) 1 (.int .u64 (X (f x.b y.b)));replace hB:=aQ hB (b:=w.heap.size+1+1+1) 1 (by omega) (.int .u64 (X (f x.b y.b)));replace hs':w.heap.size+4≤(Y.setCell ⟨w.heap.size+1+1+1,1,none⟩ (.int .u64 (X (f x.b y.b)))).heap.size:=by simpa using hs'
 clear e3 f3;generalize (Y.setCell ⟨w.heap.size+1+1+1,1,none⟩ (.int .u64 (X (f x.b y.b))))=W at *;refine ak (n:=2) ?_;go_upto_region 5 with (fail);have ha:∀X,Below W.heap.size W X→X.cell? ⟨w.heap.size,2,none⟩=some (.int .u64 (Go.Proofs.YtncnfncglacheaaGreatDoor.X x.c)):=fun X h=>by rw [(r0.below h r0.lt).cell?];rfl
 have hb:∀X,Below W.heap.size W X→X.cell? ⟨w.heap.size+1,2,none⟩=some (.int .u64 (Go.Proofs.YtncnfncglacheaaGreatDoor.X y.c)):=fun X h=>by rw [(r1.below h r1.lt).cell?];rfl
 refine aH (S:=fun X=>Below W.heap.size W X) 9 rfl (by kernel_rfl) (au _ _).drew fun hS=> ?_;refine tk 0 12 (.int .i64 2) hS ?_;refine tk 1 13 (.func (.func g) #[] #[]) hS ?_;refine tk 2 14 (.int .i64 2) hS ?_;refine tk 3 15 (.pointer (some ⟨w.heap.size,2,none⟩)) hS ?_;refine tk 4 16 (.int .u64 (X x.c)) hS ?_ rfl (qi fun W' h=>by have q0:=ha W' h;have q1:=hb W' h;go_simp);refine tk 5 17 (.int .i64 2) hS ?_;refine tk 6 18 (.pointer (some ⟨w.heap.size+1,2,none⟩)) hS ?_;refine tk 7 19 (.int .u64 (X y.c)) hS ?_ rfl (qi fun W' h=>by have q0:=ha W' h;have q1:=hb W' h;go_simp);refine iZ 8 (fun K' hK=> ?_);refine El (d:=20) (g:=g) (args:= #[.int .u64 (X x.c), .int .u64 (X y.c)]) rfl rfl (by rcases hg with rfl | rfl | rfl<;>first | kernel_rfl | (simp [execOp,resolve,invoke,Act.eval]) | go_simp) ?_;refine (hf _ x.c y.c).mono ?_;rintro e Wa ⟨rfl,rfl⟩;refine ⟨_,rfl,hK.out _ _ hS fun _=> ?_⟩;clear hK ha hb;simp only [sA,sB,sC];refine aP (by kernel_rfl) ?_;simp only [List.drop];replace r0:=r0.drew;replace r1:=r1.drew;replace r2:=r2.drew;replace r3:=r3.drew;replace hB:=hB.drew;replace hs':w.heap.size+4≤W.drew.heap.size:=hs';clear hS;generalize W.drew=Y at *;have e3:Y.cell? ⟨w.heap.size+1+1+1,2,none⟩=some (.int .u64 0):=by rw [r3.cell?];rfl
 have f3:=r3.frozen 2;go_wp2_with fail;replace r3:Row oV (Y.setCell ⟨w.heap.size+1+1+1,2,none⟩ (.int .u64 (X (f x.c y.c)))) (w.heap.size+1+1+1) 65 [ow (X (f x.a y.a)),ow (X (f x.b y.b)),ow (X (f x.c y.c)),ow 0]:=r3.set 2 (ow (X (f x.c y.c)));replace r0:=r0.aj (b':=w.heap.size+1+1+1) (by omega) 2 (.int .u64 (X (f x.c y.c)));replace r1:=r1.aj (b':=w.heap.size+1+1+1) (by omega) 2 (.int .u64 (X (f x.c y.c)));replace r2:=r2.aj (b':=w.heap.size+1+1+1) (by omega) 2 (.int .u64 (X (f x.c y.c)));replace hB:=aQ hB (b:=w.heap.size+1+1+1) 2 (by omega) (.int .u64 (X (f x.c y.c)));replace hs':w.heap.size+4≤(Y.setCell ⟨w.heap.size+1+1+1,2,none⟩ (.int .u64 (X (f x.c y.c)))).heap.size:=by simpa using hs'
 clear e3 f3;generalize (Y.setCell ⟨w.heap.size+1+1+1,2,none⟩ (.int .u64 (X (f x.c y.c))))=W at *;refine ak (n:=1) ?_;go_upto_region 5 with (fail);have ha:∀X,Below W.heap.size W X→X.cell? ⟨w.heap.size,3,none⟩=some (.int .u64 (Go.Proofs.YtncnfncglacheaaGreatDoor.X x.d)):=fun X h=>by rw [(r0.below h r0.lt).cell?];rfl
 have hb:∀X,Below W.heap.size W X→X.cell? ⟨w.heap.size+1,3,none⟩=some (.int .u64 (Go.Proofs.YtncnfncglacheaaGreatDoor.X y.d)):=fun X h=>by rw [(r1.below h r1.lt).cell?];rfl
 refine aH (S:=fun X=>Below W.heap.size W X) 9 rfl (by kernel_rfl) (au _ _).drew fun hS=> ?_;refine tk 0 12 (.int .i64 3) hS ?_;refine tk 1 13 (.func (.func g) #[] #[]) hS ?_;refine tk 2 14 (.int .i64 3) hS ?_;refine tk 3 15 (.pointer (some ⟨w.heap.size,3,none⟩)) hS ?_;refine tk 4 16 (.int .u64 (X x.d)) hS ?_ rfl (qi fun W' h=>by have q0:=ha W' h;have q1:=hb W' h;go_simp);refine tk 5 17 (.int .i64 3) hS ?_;refine tk 6 18 (.pointer (some ⟨w.heap.size+1,3,none⟩)) hS ?_;refine tk 7 19 (.int .u64 (X y.d)) hS ?_ rfl (qi fun W' h=>by have q0:=ha W' h;have q1:=hb W' h;go_simp);refine iZ 8 (fun K' hK=> ?_);refine El (d:=20) (g:=g) (args:= #[.int .u64 (X x.d), .int .u64 (X y.d)]) rfl rfl (by rcases hg with rfl | rfl | rfl<;>first | kernel_rfl | (simp [execOp,resolve,invoke,Act.eval]) | go_simp) ?_;refine (hf _ x.d y.d).mono ?_;rintro e Wa ⟨rfl,rfl⟩;refine ⟨_,rfl,hK.out _ _ hS fun _=> ?_⟩;clear hK ha hb;simp only [sA,sB,sC];refine aP (by kernel_rfl) ?_;simp only [List.drop];replace r0:=r0.drew;replace r1:=r1.drew;replace r2:=r2.drew;replace r3:=r3.drew;replace hB:=hB.drew;replace hs':w.heap.size+4≤W.drew.heap.size:=hs';clear hS;generalize W.drew=Y at *;have e3:Y.cell? ⟨w.heap.size+1+1+1,3,none⟩=some (.int .u64 0):=by rw [r3.cell?];rfl
 have f3:=r3.frozen 3;go_wp2_with fail;replace r3:Row oV (Y.setCell ⟨w.heap.size+1+1+1,3,none⟩ (.int .u64 (X (f x.d y.d)))) (w.heap.size+1+1+1) 65 [ow (X (f x.a y.a)),ow (X (f x.b y.b)),ow (X (f x.c y.c)),ow (X (f x.d y.d))]:=r3.set 3 (ow (X (f x.d y.d)));replace r0:=r0.aj (b':=w.heap.size+1+1+1) (by omega) 3 (.int .u64 (X (f x.d y.d)));replace r1:=r1.aj (b':=w.heap.size+1+1+1) (by omega) 3 (.int .u64 (X (f x.d y.d)));replace r2:=r2.aj (b':=w.heap.size+1+1+1) (by omega) 3 (.int .u64 (X (f x.d y.d)));replace hB:=aQ hB (b:=w.heap.size+1+1+1) 3 (by omega) (.int .u64 (X (f x.d y.d)));replace hs':w.heap.size+4≤(Y.setCell ⟨w.heap.size+1+1+1,3,none⟩ (.int .u64 (X (f x.d y.d)))).heap.size:=by simpa using hs'
 clear e3 f3;generalize (Y.setCell ⟨w.heap.size+1+1+1,3,none⟩ (.int .u64 (X (f x.d y.d))))=W at *;refine ak (n:=0) ?_
 go_wp2_with (first
  | ((with_reducible refine zL (Row.at r3) ay rfl (C:=ax (Cl.zip f x y)) ?_))
  | ((with_reducible refine zS (l':=aJ (Cl.zip f x y)) r2 ay ?_);(intro W6 hs6 dw gP)))
 refine fJ (aR (f:=oV) (l:=aJ (Cl.zip f x y)) rfl _ ay (w.heap.size+1+1) 0 rfl hs6.at) rfl ?_;exact ⟨rfl,hB.grown dw hB.size (fun k e=>by cases e;omega)⟩
theorem RV (w:World) (x y:Cl):Calls Tryz.prog 102 #[.agg (ax x), .agg (ax y)] w fun e w'=>e= .returned (.agg (ax (Cl.zip (fun x y=>x &&& y) x y)))∧Below w.heap.size w w':=by
 go_enter Tryz.func102,Tryz.ntmps102;go_upto_region 1 with (fail)
 obtain ⟨W,hW,hB,hs,r0,r1,r2⟩:∃W,(((w.alloc (.cells (ax x) 65)).alloc (.cells (ax y) 65)).alloc (.cells fV 65))=W∧Below w.heap.size w W∧W.heap.size=w.heap.size+3∧W.heap[w.heap.size]?=some (.cells (ax x) 65 (0,0))∧W.heap[w.heap.size+1]?=some (.cells (ax y) 65 (0,0))∧W.heap[w.heap.size+1+1]?=some (.cells fV 65 (0,0)):=by
  refine ⟨_,rfl,?_,by simp,?_,?_,?_⟩
  ·exact ai (ai (ai (au _ _) (ah _) _) (ah _) _) (ah _) _
  all_goals repeat (first | (refine dH _ _ _ ?_;(simp;done)) | (refine (pM _ _ _ ?_).trans ?_;·(simp<;>omega)))
 rw [hW];clear hW;replace r0:Row oV W w.heap.size 65 (aJ x):=r0;replace r1:Row oV W (w.heap.size+1) 65 (aJ y):=r1;replace r2:Row oV W (w.heap.size+1+1) 65 [ow 0,ow 0,ow 0,ow 0]:=r2;have hs':w.heap.size+3≤W.heap.size:=Iq hs.symm;clear hs
 go_wp2_with (first
  | ((with_reducible refine zL r0.at ay rfl (C:=ax x) ?_))
  | ((with_reducible refine zL r1.at ay rfl (C:=ax y) ?_)))
 refine (yD _ (by decide) (fun x y=>x &&& y) afj W x y).mono ?_;rintro e W2 ⟨rfl,hB2⟩;replace r2:=r2.below hB2 r2.lt;replace hB:=hB.trans (hB2.mono hB.size)
 go_wp2_with (first
  | ((with_reducible refine zS (l':=aJ (Cl.zip (fun x y=>x &&& y) x y)) r2 ay ?_);(intro W6 hs6 dw gP)))
 refine fJ (aR (f:=oV) (l:=aJ (Cl.zip (fun x y=>x &&& y) x y)) rfl _ ay (w.heap.size+1+1) 0 rfl hs6.at) rfl ?_;exact ⟨rfl,hB.grown dw hB.size (fun k e=>by cases e;omega)⟩
theorem abG (w:World) (x y:Cl):Calls Tryz.prog 224 #[.agg (ax x), .agg (ax y)] w fun e w'=>e= .returned (.agg (ax (Cl.zip (fun x y=>x &&& ~~~y) x y)))∧Below w.heap.size w w':=by
 go_enter Tryz.func224,Tryz.ntmps224;go_upto_region 1 with (fail)
 obtain ⟨W,hW,hB,hs,r0,r1,r2⟩:∃W,(((w.alloc (.cells (ax x) 65)).alloc (.cells (ax y) 65)).alloc (.cells fV 65))=W∧Below w.heap.size w W∧W.heap.size=w.heap.size+3∧W.heap[w.heap.size]?=some (.cells (ax x) 65 (0,0))∧W.heap[w.heap.size+1]?=some (.cells (ax y) 65 (0,0))∧W.heap[w.heap.size+1+1]?=some (.cells fV 65 (0,0)):=by
  refine ⟨_,rfl,?_,by simp,?_,?_,?_⟩
  ·exact ai (ai (ai (au _ _) (ah _) _) (ah _) _) (ah _) _
  all_goals repeat (first | (refine dH _ _ _ ?_;(simp;done)) | (refine (pM _ _ _ ?_).trans ?_;·(simp<;>omega)))
 rw [hW];clear hW;replace r0:Row oV W w.heap.size 65 (aJ x):=r0;replace r1:Row oV W (w.heap.size+1) 65 (aJ y):=r1;replace r2:Row oV W (w.heap.size+1+1) 65 [ow 0,ow 0,ow 0,ow 0]:=r2;have hs':w.heap.size+3≤W.heap.size:=Iq hs.symm;clear hs
 go_wp2_with (first
  | ((with_reducible refine zL r0.at ay rfl (C:=ax x) ?_))
  | ((with_reducible refine zL r1.at ay rfl (C:=ax y) ?_)))
 refine (yD _ (by decide) (fun x y=>x &&& ~~~y) YY W x y).mono ?_;rintro e W2 ⟨rfl,hB2⟩;replace r2:=r2.below hB2 r2.lt;replace hB:=hB.trans (hB2.mono hB.size)
 go_wp2_with (first
  | ((with_reducible refine zS (l':=aJ (Cl.zip (fun x y=>x &&& ~~~y) x y)) r2 ay ?_);(intro W6 hs6 dw gP)))
 refine fJ (aR (f:=oV) (l:=aJ (Cl.zip (fun x y=>x &&& ~~~y) x y)) rfl _ ay (w.heap.size+1+1) 0 rfl hs6.at) rfl ?_;exact ⟨rfl,hB.grown dw hB.size (fun k e=>by cases e;omega)⟩
theorem aa8 (w:World) (x:Cl):Calls Tryz.prog 105 #[.agg (ax x)] w fun e w'=>e= .returned (.agg (ax (Cl.zip (fun x _=> ~~~x) x x)))∧Below w.heap.size w w':=by
 go_enter Tryz.func105,Tryz.ntmps105;go_upto_region 1 with (fail)
 obtain ⟨W,hW,hB,hs,r0,r2⟩:∃W,((w.alloc (.cells (ax x) 65)).alloc (.cells fV 65))=W∧Below w.heap.size w W∧W.heap.size=w.heap.size+2∧W.heap[w.heap.size]?=some (.cells (ax x) 65 (0,0))∧W.heap[w.heap.size+1]?=some (.cells fV 65 (0,0)):=by
  refine ⟨_,rfl,?_,by simp,?_,?_⟩
  ·exact ai (ai (au _ _) (ah _) _) (ah _) _
  all_goals repeat (first | (refine dH _ _ _ ?_;(simp;done)) | (refine (pM _ _ _ ?_).trans ?_;·(simp<;>omega)))
 rw [hW];clear hW;replace r0:Row oV W w.heap.size 65 (aJ x):=r0;replace r2:Row oV W (w.heap.size+1) 65 [ow 0,ow 0,ow 0,ow 0]:=r2;have hs':w.heap.size+2≤W.heap.size:=Iq hs.symm;clear hs;go_wp2_with ((with_reducible refine zL r0.at ay rfl (C:=ax x) ?_));refine (yD _ (by decide) (fun x _=> ~~~x) afm W x x).mono ?_;rintro e W2 ⟨rfl,hB2⟩;replace r2:=r2.below hB2 r2.lt;replace hB:=hB.trans (hB2.mono hB.size);go_wp2_with ((with_reducible refine zS (l':=aJ (Cl.zip (fun x _=> ~~~x) x x)) r2 ay ?_);(intro W6 hs6 dw gP));refine fJ (aR (f:=oV) (l:=aJ (Cl.zip (fun x _=> ~~~x) x x)) rfl _ ay (w.heap.size+1) 0 rfl hs6.at) rfl ?_;exact ⟨rfl,hB.grown dw hB.size (fun k e=>by cases e;omega)⟩
theorem UD (x y:Cl):Cl.zip (fun x y=>x &&& y) x y=x.inter y:=rfl
def Cl.non (x:Cl):Cl:=⟨~~~x.a,~~~x.b,~~~x.c,~~~x.d⟩
end
section
open Go.RowKit Mem
theorem Mem.bG {α:Type} {f:α→Value} {w:World} {l:List α} {P:Program} {fn:Func} {p t:Tmp} {ty:TypeId} (h:fn.results= #[.cell p ty, .tmp t]) (tmps:Array Value) (T:bU P ty l.length) (b off:Nat) (hp:tmps.getD p undef= .pointer (some ⟨b,off,none⟩)) (hat:At f w b off l):
  (results fn tmps).run P w= .ok (.tuple #[.agg (l.map f).toArray,tmps.getD t undef]) w:=by
 have hp':tmps[p]?.getD undef= .pointer (some ⟨b,off,none⟩):=by simpa using hp
 simp [results,h,hp',asAddr,je T hat]
end
section
open Go Go.RowKit Mem
structure DF where
 cls:List Cl
 nx:List (List Nat)
 ac:List Bool
structure TB where
 cell:List Nat
 cells:Nat
 nx:List (List Nat)
 ac:List Bool
theorem dG {α β:Type} (f:β→α→β) (a:β) (l:List α) (k:Nat) (h:k<l.length):(l.take (k+1)).foldl f a=f ((l.take k).foldl f a) l[k]:=by
 rw [AX h,SV];rfl
theorem AB:∀(l m:List Nat),l.Nodup→(∀x∈l,x∈m)→l.length≤m.length
 | [],_,_,_=>Mg _
 | a::l,m,hn,hs=>by
  obtain ⟨h1,h2⟩:=List.nodup_cons.1 hn;have ha:a∈m:=hs a (by simp);have:=AB l (m.erase a) h2 fun x hx=>(List.mem_erase_of_ne (fun e:x=a=>h1 (by rw [← e];exact hx))).2 (hs x (by simp [hx]));rw [qcC ha] at this;have:=qdn ha;simp only [nQ];omega
theorem Uj (n:Nat) (l:List Nat) (hn:l.Nodup) (hb:∀x∈l,x<n):l.length≤n:=by
 have:=AB l (List.range n) hn fun x hx=>Ij.2 (hb x hx)
 rwa [List.length_range] at this
theorem aO {α:Type} (l:List α) (i:Nat) (d:α) (h:i<l.length):l.getD i d∈l:=by
 rw [dD,bM h];exact pJ h
def VN (c:Cl):List Nat:=(List.range 256).filter c.mem
def eu (i:Nat) (bs cell:List Nat):List Nat:=bs.foldl (fun s b=>s.set b i) cell
def kU (cls:List Cl):Nat→List Nat
 | 0=>List.replicate 256 0
 | k+1=>eu k (VN (cls.getD k bS)) (kU cls k)
def bT (D:DF):TB:=⟨kU D.cls D.cls.length,D.cls.length,D.nx,D.ac⟩
structure DF.Ok (D:DF):Prop where
 c1:1≤D.cls.length
 mF:D.cls.length≤256
 n1:1≤D.nx.length
 nn:D.nx.length≤65535
 ac:D.ac.length=D.nx.length
 rw:∀r∈D.nx,r.length=D.cls.length
 rb:∀r∈D.nx,∀t∈r,t<D.nx.length
structure TB.Ok (T:TB):Prop where
 cl:T.cell.length=256
 mF:T.cells≤256
 cb:∀x∈T.cell,x<T.cells
 n1:1≤T.nx.length
 nn:T.nx.length≤65535
 ac:T.ac.length=T.nx.length
 rw:∀r∈T.nx,r.length=T.cells
 rb:∀r∈T.nx,∀t∈r,t<T.nx.length
theorem aaH (c:Cl):∀b∈VN c,b<256:=fun b hb=>Ij.1 (qda.1 hb).1
theorem rY (i:Nat):∀(bs cell:List Nat),(eu i bs cell).length=cell.length
 | [],_=>rfl
 | b::bs,cell=>by
  show (eu i bs (cell.set b i)).length=_;rw [rY i bs,ru]
theorem Ah (i n:Nat) (hi:i<n):∀(bs cell:List Nat),(∀x∈cell,x<n)→∀x∈eu i bs cell,x<n
 | [],_,h=>h
 | b::bs,cell,h=>by
  refine Ah i n hi bs (cell.set b i) fun x hx=> ?_;rcases SY hx with h' | rfl
  ·exact h x h'
  ·exact hi
theorem jN (cls:List Cl):∀k,(kU cls k).length=256
 | 0=>by simp [kU]
 | k+1=>by rw [kU,rY,jN cls k]
theorem C9 (cls:List Cl) (n:Nat) (h1:1≤n):∀k,k≤n→∀x∈kU cls k,x<n
 | 0,_=>fun x hx=>by rw [(XI.1 hx).2];omega
 | k+1,h=>Ah k n (by omega) _ _ (C9 cls n h1 k (by omega))
theorem jO {D:DF} (h:D.Ok):(bT D).Ok:=
 ⟨jN _ _,h.mF,C9 _ _ h.c1 _ (ah _),h.n1,h.nn,h.ac,h.rw,h.rb⟩
def addN (l:List Nat) (t:Nat):List Nat:=if t∈l then l else l++[t]
def oN (l row:List Nat):List Nat:=row.foldl addN l
def lV (nx:List (List Nat)):Nat→Nat→List Nat→List Nat
 | 0,_,l=>l
 | f+1,i,l=>if i<l.length then lV nx f (i+1) (oN l (nx.getD (l.getD i 0) [])) else l
def TB.reach (T:TB):List Nat:=lV T.nx T.nx.length 0 [0]
structure mP (n:Nat) (l:List Nat):Prop where
 nd:l.Nodup
 lt:∀x∈l,x<n
 ne:1≤l.length
theorem mP.len {n:Nat} {l:List Nat} (h:mP n l):l.length≤n:=Uj n l h.nd h.lt
theorem mP.add {n:Nat} {l:List Nat} (h:mP n l) {t:Nat} (ht:t<n):mP n (addN l t):=by
 unfold addN;split
 ·exact h
 ·rename_i hm;refine ⟨qdl.2 ⟨h.nd,by simp,fun a ha b hb e=>hm (by rw [← lS.1 hb,← e];exact ha)⟩,fun x hx=> ?_,by simp⟩;rcases sj.1 hx with h' | h'
  ·exact h.lt x h'
  ·rw [lS.1 h'];exact ht
theorem mP.oN {n:Nat}:∀(row:List Nat) {l:List Nat},mP n l→(∀t∈row,t<n)→mP n (oN l row)
 | [],_,h,_=>h
 | t::row,l,h,hr=>mP.oN row (h.add (hr t (by simp))) fun t ht=>hr t (by simp [ht])
theorem YV (row:List Nat):∀l:List Nat,l.length≤(Go.Proofs.YtncnfncglacheaaGreatDoor.oN l row).length:=by
 induction row with
 | nil=>intro l;exact ah _
 | cons t row ih=>
  intro l;refine aL ?_ (ih (addN l t));unfold addN;split<;>simp
theorem mP.one {n:Nat} (h:1≤n):mP n [0]:=⟨by simp,by simp;omega,by simp⟩
theorem uK {nx:List (List Nat)} {n:Nat} (hr:∀r∈nx,∀t∈r,t<n) (i:Nat):∀t∈nx.getD i [],t<n:=by
 by_cases h:i<nx.length
 ·exact hr _ (aO nx i [] h)
 ·rw [dD,qX (by omega)];simp
theorem JA {nx:List (List Nat)} {n:Nat} (hr:∀r∈nx,∀t∈r,t<n):∀(f i:Nat) (l:List Nat),mP n l→mP n (lV nx f i l)
 | 0,_,_,h=>h
 | f+1,i,l,h=>by
  unfold lV;split
  ·exact JA hr f _ _ (mP.oN _ h (uK hr _))
  ·exact h
theorem TB.Ok.reach {T:TB} (h:T.Ok):mP T.nx.length T.reach:=JA h.rb _ _ _ (.one h.n1)
theorem QH (nx:List (List Nat)) (f i:Nat) (l:List Nat) (h:l.length≤i):lV nx f i l=l:=by
 cases f with
 | zero=>rfl
 | succ f=>rw [lV,aF (by omega)]
theorem OX (nx:List (List Nat)) (n i:Nat) (l:List Nat) (h:i<l.length) (hn:l.length≤n):lV nx (n - i) i l=lV nx (n - (i+1)) (i+1) (oN l (nx.getD (l.getD i 0) [])):=by
 rw [show n - i=(n - (i+1))+1 by omega,lV,aC h]
def qY (nx:List (List Nat)) (bl:List Nat) (s:Nat):List Nat:=bl.getD s 0::(nx.getD s []).map fun t=>bl.getD t 0
structure RS where
 ks:List (List Nat)
 rs:List Nat
 cB:List Nat
def xH (nx:List (List Nat)) (bl:List Nat) (st:RS) (s:Nat):RS:=
 if qY nx bl s∈st.ks then {st with cB:=st.cB.set s (st.ks.idxOf (qY nx bl s))} else ⟨st.ks++[qY nx bl s],st.rs++[s],st.cB.set s st.ks.length⟩
def Ir (n:Nat):RS:=⟨[],[],List.replicate n 0⟩
def l9 (nx:List (List Nat)) (bl:List Nat) (n:Nat) (l:List Nat):RS:=l.foldl (xH nx bl) (Ir n)
def wO (nx:List (List Nat)) (n:Nat) (l:List Nat):Nat→List Nat→Nat→List Nat×List Nat
 | 0,bl,_=>(bl,[])
 | f+1,bl,c=>if (l9 nx bl n l).rs.length=c then ((l9 nx bl n l).cB,(l9 nx bl n l).rs) else wO nx n l f (l9 nx bl n l).cB (l9 nx bl n l).rs.length
def oG (ac:List Bool) (b:List Nat) (s:Nat):List Nat:=if ac.getD s false=true then b.set s 1 else b
def sO (ac:List Bool) (n:Nat) (l:List Nat):List Nat:=l.foldl (oG ac) (List.replicate n 0)
def TB.refine (T:TB) (l:List Nat):List Nat×List Nat:=wO T.nx T.nx.length l (l.length+1) (sO T.ac T.nx.length l) 0
structure RS.Ok (nx:List (List Nat)) (bl:List Nat) (n:Nat) (l:List Nat) (st:RS):Prop where
 len:st.rs.length=st.ks.length
 le:st.rs.length≤l.length
 nl:st.cB.length=n
 nb:∀x∈st.cB,x<max st.ks.length 1
 mem:∀x∈st.rs,x∈l
 has:∀s∈l,qY nx bl s∈st.ks
 hit:∀i,i<st.rs.length→∃s∈l,st.cB.getD s 0=i
theorem adE (nx:List (List Nat)) (bl:List Nat) (n:Nat):(Ir n).Ok nx bl n []:=
 ⟨rfl,ah _,by simp [Ir],fun x hx=>by rw [(XI.1 hx).2];show 0<max 0 1;omega,by simp [Ir],by simp,fun i hi=>by simp [Ir] at hi⟩
theorem ig {α:Type} (l:List α) (i j:Nat) (x d:α) (hi:i<l.length):(l.set i x).getD j d=if i=j then x else l.getD j d:=by
 rw [dD,LJ];by_cases h:i=j
 ·subst h;rw [aC rfl,aC hi,aC rfl];rfl
 ·rw [aF h,aF h,dD]
theorem YZ {nx:List (List Nat)} {bl:List Nat} {n:Nat} {l:List Nat} {st:RS} (h:st.Ok nx bl n l) {s:Nat} (hs:s<n) (hsl:s∉l):(xH nx bl st s).Ok nx bl n (l++[s]):=by
 have hsn:s<st.cB.length:=by rw [h.nl];exact hs
 unfold xH;split
 ·rename_i hm;have hid:=qck hm;refine ⟨h.len,by rw [fq];have:=h.le;show st.rs.length≤_;omega,by rw [ru];exact h.nl,fun x hx=> ?_,fun x hx=>Vk _ (h.mem x hx),fun x hx=> ?_,fun i hi=> ?_⟩
  ·rcases SY hx with h' | rfl
   ·exact h.nb x h'
   ·show _<max st.ks.length 1;omega
  ·rcases sj.1 hx with h' | h'
   ·exact h.has x h'
   ·rw [lS.1 h'];exact hm
  ·obtain ⟨t,ht,e⟩:=h.hit i hi;exact ⟨t,Vk _ ht,by rw [ig _ _ _ _ _ hsn,aF (fun e':s=t=>hsl (by rw [e'];exact ht))];exact e⟩
 ·rename_i hm;refine ⟨by simp [h.len],by simp only [fq,BH];have:=h.le;omega,by rw [ru];exact h.nl,fun x hx=> ?_,fun x hx=> ?_,fun x hx=> ?_,fun i hi=> ?_⟩
  ·simp only [fq,BH];rcases SY hx with h' | rfl
   ·have:=h.nb x h';omega
   ·omega
  ·rcases sj.1 hx with h' | h'
   ·exact Vk _ (h.mem x h')
   ·rw [lS.1 h'];simp
  ·rcases sj.1 hx with h' | h'
   ·exact Vk _ (h.has x h')
   ·rw [lS.1 h'];simp
  ·simp only [fq,BH] at hi;by_cases hi':i<st.rs.length
   ·obtain ⟨t,ht,e⟩:=h.hit i hi';exact ⟨t,Vk _ ht,by rw [ig _ _ _ _ _ hsn,aF (fun e':s=t=>hsl (by rw [e'];exact ht))];exact e⟩
   ·exact ⟨s,by simp,by rw [ig _ _ _ _ _ hsn,aC rfl];have:=h.len;omega⟩
theorem xk {nx:List (List Nat)} {bl:List Nat} {n:Nat} {l:List Nat} (hl:mP n l):∀k,k≤l.length→((l.take k).foldl (xH nx bl) (Ir n)).Ok nx bl n (l.take k)
 | 0,_=>adE nx bl n
 | k+1,hk=>by
  have hk':k<l.length:=hk;rw [dG _ _ _ _ hk',AX hk'];refine YZ (xk hl k (by omega)) (hl.lt _ (pJ hk')) fun hm=> ?_;obtain ⟨j,hj,e⟩:=qdd.1 hm;have:=(List.getElem_inj (xs:=l) hl.nd).1 e;omega
theorem wW {nx:List (List Nat)} {bl:List Nat} {n:Nat} {l:List Nat} (hl:mP n l):(l9 nx bl n l).Ok nx bl n l:=by
 have:=xk (nx:=nx) (bl:=bl) hl l.length (ah _);rw [Qr] at this;exact this
theorem oH {nx:List (List Nat)} {bl:List Nat} {n c:Nat} {l:List Nat} (hl:mP n l) (hc:∀i,i<c→∃s∈l,bl.getD s 0=i):c≤(l9 nx bl n l).rs.length:=by
 have h:=wW (nx:=nx) (bl:=bl) hl;rw [h.len]
 have:=AB (List.range c) ((l9 nx bl n l).ks.map fun k=>k.headD 0) qdt fun i hi=>by
  obtain ⟨s,hs,e⟩:=hc i (Ij.1 hi);exact wS.2 ⟨_,h.has s hs,by rw [← e];rfl⟩
 rwa [List.length_range,fD] at this
theorem zn (ac:List Bool) (n:Nat) (l:List Nat):∀k,k≤l.length→((l.take k).foldl (oG ac) (List.replicate n 0)).length=n∧∀x∈(l.take k).foldl (oG ac) (List.replicate n 0),x≤1
 | 0,_=>⟨by simp,fun x hx=>by rw [(XI.1 hx).2];omega⟩
 | k+1,hk=>by
  rw [dG _ _ _ _ hk];obtain ⟨h1,h2⟩:=zn ac n l k (by omega);unfold oG;split
  ·refine ⟨by rw [ru];exact h1,fun x hx=> ?_⟩;rcases SY hx with h' | rfl
   ·exact h2 x h'
   ·omega
  ·exact ⟨h1,h2⟩
structure Uo (n:Nat) (l:List Nat) (p:List Nat×List Nat):Prop where
 bl:p.1.length=n
 bb:∀x∈p.1,x<p.2.length
 rm:∀x∈p.2,x∈l
 r1:1≤p.2.length
 rl:p.2.length≤l.length
theorem Z7 {nx:List (List Nat)} {bl:List Nat} {n:Nat} {l:List Nat} (hl:mP n l):Uo n l ((l9 nx bl n l).cB,(l9 nx bl n l).rs):=by
 have h:=wW (nx:=nx) (bl:=bl) hl
 have h1:1≤(l9 nx bl n l).ks.length:=by
  have:=h.has _ (aO l 0 0 hl.ne);exact qdn this
 refine ⟨h.nl,fun x hx=> ?_,h.mem,?_,h.le⟩
 ·have:=h.nb x hx;rw [Nat.max_eq_left h1] at this;simp only [h.len];exact this
 ·simp only [h.len];exact h1
theorem Re {nx:List (List Nat)} {n:Nat} {l:List Nat} (hl:mP n l):∀(f:Nat) (bl:List Nat) (c:Nat),l.length<f+c→(∀i,i<c→∃s∈l,bl.getD s 0=i)→Uo n l (wO nx n l f bl c)
 | 0,bl,c,hf,hc=>by
  have:=oH (nx:=nx) hl hc;have:=(wW (nx:=nx) (bl:=bl) hl).le;omega
 | f+1,bl,c,hf,hc=>by
  have hg:=oH (nx:=nx) hl hc;unfold wO;split
  ·exact Z7 hl
  ·exact Re hl f _ _ (by omega) (wW (nx:=nx) (bl:=bl) hl).hit
theorem TB.Lv (T:TB) {l:List Nat} (hl:mP T.nx.length l):Uo T.nx.length l (T.refine l):=Re hl _ _ _ (by omega) fun i hi=>by omega
theorem UQ {nx:List (List Nat)} {n:Nat} {l:List Nat} (m c:Nat) (bl:List Nat) (hc:c<m):wO nx n l (m - c) bl c=if (l9 nx bl n l).rs.length=c then ((l9 nx bl n l).cB,(l9 nx bl n l).rs) else wO nx n l (m - c - 1) (l9 nx bl n l).cB (l9 nx bl n l).rs.length:=by
 rw [show m - c=(m - c - 1)+1 by omega,wO];rfl
theorem Ky {nx:List (List Nat)} {n:Nat} {l:List Nat} (hl:mP n l):∀(f g:Nat) (bl:List Nat) (c:Nat),l.length<f+c→l.length<g+c→(∀i,i<c→∃s∈l,bl.getD s 0=i)→wO nx n l f bl c=wO nx n l g bl c
 | 0,g,bl,c,hf,_,hc=>by
  have:=oH (nx:=nx) hl hc;have:=(wW (nx:=nx) (bl:=bl) hl).le;omega
 | f+1,0,bl,c,_,hg,hc=>by
  have:=oH (nx:=nx) hl hc;have:=(wW (nx:=nx) (bl:=bl) hl).le;omega
 | f+1,g+1,bl,c,hf,hg,hc=>by
  have hgr:=oH (nx:=nx) hl hc;unfold wO;split
  ·rfl
  ·exact Ky hl f g _ _ (by omega) (by omega) (wW (nx:=nx) (bl:=bl) hl).hit
structure MS where
 ks:List (List Nat)
 cells:List Nat
 cls:List Cl
 of:List Int
def jM (nx:List (List Nat)) (block:List Nat) (s c:Nat):Nat:=block.getD ((nx.getD s []).getD c 0) 0
def ug (nx:List (List Nat)) (block aG:List Nat) (c:Nat):List Nat:=aG.map fun s=>jM nx block s c
def jT (nx:List (List Nat)) (block aG:List Nat) (st:MS) (c:Nat):MS:=
 if st.of.getD c 0<0 then
  (if ug nx block aG c∈st.ks then {st with of:=st.of.set c (st.ks.idxOf (ug nx block aG c):Nat)}
   else ⟨st.ks++[ug nx block aG c],st.cells++[c],st.cls++[bS],st.of.set c (st.ks.length:Nat)⟩)
 else st
def ym (st:MS) (c b:Nat):MS:={st with cls:=st.cls.set (st.of.getD c 0).toNat ((st.cls.getD (st.of.getD c 0).toNat bS).union (bS.add b))}
def ms0 (n:Nat):MS:=⟨[],[],[],List.replicate n (-1)⟩
def iK (T:TB) (block aG:List Nat):Nat→MS
 | 0=>ms0 T.cells
 | b+1=>ym (jT T.nx block aG (iK T block aG b) (T.cell.getD b 0)) (T.cell.getD b 0) b
structure MS.Ok (n k:Nat) (st:MS):Prop where
 cl:st.cells.length=st.ks.length
 cc:st.cls.length=st.ks.length
 ol:st.of.length=n
 ob:∀x∈st.of,x<st.ks.length
 cb:∀x∈st.cells,x<n
 le:st.ks.length≤k
theorem adh (n:Nat):(ms0 n).Ok n 0:=⟨rfl,rfl,by simp [ms0],fun x hx=>by rw [(XI.1 hx).2];show (-1:Int)<0;omega,by simp [ms0],ah _⟩
theorem zO {n k:Nat} {st:MS} (h:st.Ok n k) (nx:List (List Nat)) (block aG:List Nat) {c:Nat} (hc:c<n):(jT nx block aG st c).Ok n (k+1)∧0≤(jT nx block aG st c).of.getD c 0:=by
 have hco:c<st.of.length:=by rw [h.ol];exact hc
 unfold jT;split
 ·split
  ·rename_i _ hm;have hid:=qck hm;refine ⟨⟨h.cl,h.cc,by rw [ru];exact h.ol,fun x hx=> ?_,h.cb,by have:=h.le;show st.ks.length≤_;omega⟩,?_⟩
   ·rcases SY hx with h' | rfl
    ·exact h.ob x h'
    ·show _<(st.ks.length:Int);omega
   ·show 0≤(st.of.set c _).getD c 0;rw [ig _ _ _ _ _ hco,aC rfl];omega
  ·refine ⟨⟨by simp [h.cl],by simp [h.cc],by rw [ru];exact h.ol,fun x hx=> ?_,fun x hx=> ?_,?_⟩,?_⟩
   ·simp only [fq,BH];rcases SY hx with h' | rfl
    ·have:=h.ob x h';omega
    ·omega
   ·rcases sj.1 hx with h' | h'
    ·exact h.cb x h'
    ·rw [lS.1 h'];exact hc
   ·simp only [fq,BH];have:=h.le;omega
   ·show 0≤(st.of.set c _).getD c 0;rw [ig _ _ _ _ _ hco,aC rfl];omega
 ·rename_i hn;exact ⟨⟨h.cl,h.cc,h.ol,h.ob,h.cb,by have:=h.le;omega⟩,by omega⟩
theorem Zu {n k:Nat} {st:MS} (h:st.Ok n k) (c b:Nat):(ym st c b).Ok n k:=⟨h.cl,by show (st.cls.set _ _).length=_;rw [ru];exact h.cc,h.ol,h.ob,h.cb,h.le⟩
theorem kZ {T:TB} (h:T.Ok) (b:Nat) (hb:b<256):T.cell.getD b 0<T.cells:=h.cb _ (aO _ _ _ (by rw [h.cl];exact hb))
theorem mD {T:TB} (h:T.Ok) (block aG:List Nat):∀k,k≤256→(iK T block aG k).Ok T.cells k
 | 0,_=>adh _
 | k+1,hk=>Zu (zO (mD h block aG k (by omega)) _ _ _ (kZ h k (by omega))).1 _ _
theorem Ul {T:TB} (h:T.Ok) (block aG:List Nat):∀k,k<256→1≤(iK T block aG (k+1)).ks.length
 | k,hk=>by
  have ⟨h1,h2⟩:=zO (mD h block aG k (by omega)) T.nx block aG (kZ h k hk);have:=h1.ob _ (aO _ _ 0 (by rw [h1.ol];exact kZ h k hk));show 1≤(jT _ _ _ _ _).ks.length;omega
structure CS where
 ord:List Nat
 place:List Int
 row:List Nat
def jf (st:CS) (t:Nat):CS:=
 if st.place.getD t 0<0 then ⟨st.ord++[t],st.place.set t (st.ord.length:Nat),st.row++[st.ord.length]⟩ else {st with row:=st.row++[(st.place.getD t 0).toNat]}
def GM (nx:List (List Nat)) (block:List Nat) (s:Nat) (cells:List Nat) (st:CS):CS:=cells.foldl (fun st c=>jf st (jM nx block s c)) {st with row:=[]}
structure CA where
 st:CS
 nx:List (List Nat)
 ac:List Bool
def oI (T:TB) (block aG cells:List Nat) (a:CA) (i:Nat):CA:=
 let s:=aG.getD (a.st.ord.getD i 0) 0
 let st':=GM T.nx block s cells a.st
 ⟨st',a.nx++[st'.row],a.ac++[T.ac.getD s false]⟩
def qJ (T:TB) (block aG cells:List Nat):Nat→Nat→CA→CA
 | 0,_,a=>a
 | f+1,i,a=>if i<a.st.ord.length then qJ T block aG cells f (i+1) (oI T block aG cells a i) else a
def rT (block aG:List Nat):CA:=⟨⟨[block.getD 0 0],(List.replicate aG.length (-1)).set (block.getD 0 0) 0,[]⟩,[],[]⟩
def I1 (T:TB) (p:List Nat×List Nat) (m:MS):DF:=
 let a:=qJ T p.1 p.2 m.cells p.2.length 0 (rT p.1 p.2)
 ⟨m.cls,a.nx,a.ac⟩
def TB.merge (T:TB) (p:List Nat×List Nat):MS:=iK T p.1 p.2 256
def TB.canon (T:TB):DF:=I1 T (T.refine T.reach) (T.merge (T.refine T.reach))
structure CS.Ok (n:Nat) (st:CS):Prop where
 o:mP n st.ord
 pl:st.place.length=n
 pb:∀t,t<n→st.place.getD t 0<st.ord.length
 pm:∀t,t<n→(st.place.getD t 0<0→t∉st.ord)
 rb:∀x∈st.row,x<st.ord.length
theorem acp {n:Nat} {st:CS} (h:st.Ok n) {t:Nat} (ht:t<n):(jf st t).Ok n:=by
 have htp:t<st.place.length:=by rw [h.pl];exact ht
 unfold jf;split
 ·rename_i hn;have hm:=h.pm t ht hn
  have ho:mP n (st.ord++[t]):=by
   have:=h.o.add ht
   rwa [addN,aF hm] at this
  refine ⟨ho,by rw [ru];exact h.pl,fun u hu=> ?_,fun u hu hlt=> ?_,fun x hx=> ?_⟩
  ·rw [ig _ _ _ _ _ htp,fq];split
   ·simp only [BH];omega
   ·have:=h.pb u hu;simp only [BH];omega
  ·rw [ig _ _ _ _ _ htp] at hlt;split at hlt
   ·omega
   ·rename_i hne;intro hmem;rcases sj.1 hmem with h' | h'
    ·exact h.pm u hu hlt h'
    ·exact hne (lS.1 h').symm
  ·simp only [fq,BH];rcases sj.1 hx with h' | h'
   ·have:=h.rb x h';omega
   ·rw [lS.1 h'];omega
 ·rename_i hn;refine ⟨h.o,h.pl,h.pb,h.pm,fun x hx=> ?_⟩;rcases sj.1 hx with h' | h'
  ·exact h.rb x h'
  ·rw [lS.1 h'];show (st.place.getD t 0).toNat<st.ord.length;have:=h.pb t ht;omega
theorem X0 (st:CS) (t:Nat):(jf st t).row.length=st.row.length+1∧st.ord.length≤(jf st t).ord.length:=by
 unfold jf;split<;>simp
theorem BI {n:Nat} {st:CS} (h:st.Ok n) {nx:List (List Nat)} {block:List Nat} (hb:∀s c,jM nx block s c<n) (s:Nat) (cells:List Nat):
  ∀k,k≤cells.length→((cells.take k).foldl (fun st c=>jf st (jM nx block s c)) {st with row:=[]}).Ok n∧((cells.take k).foldl (fun st c=>jf st (jM nx block s c)) {st with row:=[]}).row.length=k∧st.ord.length≤((cells.take k).foldl (fun st c=>jf st (jM nx block s c)) {st with row:=[]}).ord.length
 | 0,_=>⟨⟨h.o,h.pl,h.pb,h.pm,by simp⟩,rfl,ah _⟩
 | k+1,hk=>by
  rw [dG _ _ _ _ hk];obtain ⟨h1,h2,h3⟩:=BI h hb s cells k (by omega);have:=X0 ((cells.take k).foldl (fun st c=>jf st (jM nx block s c)) {st with row:=[]}) (jM nx block s cells[k]);exact ⟨acp h1 (hb _ _),by rw [this.1,h2],by omega⟩
theorem abn {n:Nat} {st:CS} (h:st.Ok n) {nx:List (List Nat)} {block:List Nat} (hb:∀s c,jM nx block s c<n) (s:Nat) (cells:List Nat):
  (GM nx block s cells st).Ok n∧(GM nx block s cells st).row.length=cells.length∧st.ord.length≤(GM nx block s cells st).ord.length:=by
 have:=BI h hb s cells cells.length (ah _);rw [Qr] at this;exact this
structure CA.Ok (n m i:Nat) (a:CA):Prop where
 st:a.st.Ok n
 il:i≤a.st.ord.length
 nl:a.nx.length=i
 al:a.ac.length=i
 rl:∀r∈a.nx,r.length=m
 rb:∀r∈a.nx,∀t∈r,t<a.st.ord.length
theorem NR {T:TB} {block aG cells:List Nat} {n i:Nat} {a:CA} (h:a.Ok n cells.length i) (hb:∀s c,jM T.nx block s c<n) (hi:i<a.st.ord.length):(oI T block aG cells a i).Ok n cells.length (i+1):=by
 obtain ⟨h1,h2,h3⟩:=abn h.st hb (aG.getD (a.st.ord.getD i 0) 0) cells;refine ⟨h1,by show i+1≤(GM _ _ _ _ _).ord.length;omega,by simp [oI,h.nl],by simp [oI,h.al],fun r hr=> ?_,fun r hr t ht=> ?_⟩
 ·rcases sj.1 hr with h' | h'
  ·exact h.rl r h'
  ·rw [lS.1 h'];exact h2
 ·show t<(GM _ _ _ _ _).ord.length;rcases sj.1 hr with h' | h'
  ·have:=h.rb r h' t ht;omega
  ·rw [lS.1 h'] at ht;exact h1.rb t ht
theorem Vx {block aG:List Nat} {m:Nat} (hb:block.getD 0 0<aG.length):(rT block aG).Ok aG.length m 0:=by
 have hs:block.getD 0 0<(List.replicate aG.length (-1:Int)).length:=by rw [Tw];exact hb
 refine ⟨⟨⟨by simp [rT],by simp only [rT,lS];rintro x rfl;exact hb,by simp [rT]⟩,by simp [rT],fun t ht=> ?_,fun t ht hlt hm=> ?_,by simp [rT]⟩,Mg _,rfl,rfl,by simp [rT],by simp [rT]⟩
 ·simp only [rT,BH];rw [ig _ _ _ _ _ hs];split
  ·omega
  ·rw [dD,U4,aC ht];simp
 ·simp only [rT,lS] at hm;subst hm;simp only [rT] at hlt;rw [ig _ _ _ _ _ hs,aC rfl] at hlt;omega
theorem RY {T:TB} {block aG cells:List Nat} {n:Nat} (hb:∀s c,jM T.nx block s c<n):∀(f i:Nat) (a:CA),a.Ok n cells.length i→n≤f+i→∃k,(qJ T block aG cells f i a).Ok n cells.length k∧k=(qJ T block aG cells f i a).st.ord.length
 | 0,i,a,h,hf=>⟨i,h,by have:=h.st.o.len;have:=h.il;simp only [qJ];omega⟩
 | f+1,i,a,h,hf=>by
  unfold qJ;split
  ·rename_i hi;exact RY hb f _ _ (NR h hb hi) (by omega)
  ·rename_i hi;exact ⟨i,h,by have:=h.il;omega⟩
theorem TM (T:TB) (block aG cells:List Nat) (n i:Nat) (a:CA) (h:i<a.st.ord.length) (hn:a.st.ord.length≤n):qJ T block aG cells (n - i) i a=qJ T block aG cells (n - (i+1)) (i+1) (oI T block aG cells a i):=by
 rw [show n - i=(n - (i+1))+1 by omega,qJ,aC h]
theorem Ya (T:TB) (block aG cells:List Nat) (f i:Nat) (a:CA) (h:a.st.ord.length≤i):qJ T block aG cells f i a=a:=by
 cases f with
 | zero=>rfl
 | succ f=>rw [qJ,aF (by omega)]
theorem Dq {nx:List (List Nat)} {n:Nat} {l:List Nat} {p:List Nat×List Nat} (h:Uo n l p) (s c:Nat):jM nx p.1 s c<p.2.length:=by
 unfold jM;generalize (nx.getD s []).getD c 0=t;by_cases ht:t<p.1.length
 ·exact h.bb _ (aO _ _ _ ht)
 ·rw [dD,qX (by omega)];exact h.r1
theorem abh {T:TB} (h:T.Ok) {l:List Nat} (hl:mP T.nx.length l) {p:List Nat×List Nat} (hb:Uo T.nx.length l p) {m:MS} (hm:m.Ok T.cells 256) (h1:1≤m.ks.length):
  (I1 T p m).Ok∧(I1 T p m).nx.length≤T.nx.length:=by
 have h0:p.1.getD 0 0<p.2.length:=hb.bb _ (aO _ 0 0 (by rw [hb.bl];exact h.n1));obtain ⟨k,hk,he⟩:=RY (T:=T) (aG:=p.2) (cells:=m.cells) (Dq hb) p.2.length 0 (rT _ _) (Vx h0) (by omega)
 have hkl:k≤T.nx.length:=by
  have:=hk.st.o.len;have:=hb.rl;have:=hl.len;omega
 unfold I1;generalize qJ T p.1 p.2 m.cells p.2.length 0 (rT p.1 p.2)=a at hk he ⊢;refine ⟨⟨?_,?_,?_,?_,?_,?_,?_⟩,?_⟩
 ·show 1≤m.cls.length;rw [hm.cc];exact h1
 ·show m.cls.length≤256;rw [hm.cc];exact hm.le
 ·show 1≤a.nx.length;rw [hk.nl,he];exact hk.st.o.ne
 ·show a.nx.length≤_;rw [hk.nl];have:=h.nn;omega
 ·show a.ac.length=a.nx.length;rw [hk.nl,hk.al]
 ·intro r hr;show _=m.cls.length;rw [hm.cc,← hm.cl];exact hk.rl r hr
 ·intro r hr t ht;show t<a.nx.length;rw [hk.nl,he];exact hk.rb r hr t ht
 ·show a.nx.length≤_;rw [hk.nl];exact hkl
theorem TB.Ok.canon {T:TB} (h:T.Ok):T.canon.Ok∧T.canon.nx.length≤T.nx.length:=
 abh h h.reach (T.Lv h.reach) (mD h _ _ 256 (ah _)) (Ul h _ _ 255 (by omega))
end
end Go.Proofs.YtncnfncglacheaaGreatDoor
