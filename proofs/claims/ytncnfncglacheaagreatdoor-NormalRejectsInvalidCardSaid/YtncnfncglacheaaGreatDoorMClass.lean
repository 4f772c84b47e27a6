/- Automata: classes with equal columns, the canonical automaton. -/
import Derived.Test.YtncnfncglacheaaGreatDoorMHeldD
import Derived.Test.YtncnfncglacheaaGreatDoorMTree
import Derived.Deep.DeepCutAuto
namespace Go.Proofs.YtncnfncglacheaaGreatDoor
open Go Go.RowKit Mem
set_option maxRecDepth 100000
structure Cl where
 a:UInt64
 b:UInt64
 c:UInt64
 d:UInt64
deriving DecidableEq
abbrev clA (c:Cl):Array Value:= #[.int .u64 (X c.a), .int .u64 (X c.b), .int .u64 (X c.c), .int .u64 (X c.d)]
def clL (c:Cl):List OC:=[ow (X c.a),ow (X c.b),ow (X c.c),ow (X c.d)]
theorem aggCl:AggT Tryz.prog 65 4:=⟨fun _=>by kernel_rfl,fun _=>by kernel_rfl⟩
theorem oc64_le (x:UInt64):X (oc64 x)≤127:=by
 have h:∀y:UInt64,X (y &&& 127)≤127:=by
  intro y
  have h2:(y &&& 127).toNat<2 ^ 7:=by rw [UInt64.toNat_and];exact Nat.and_lt_two_pow _ (by decide)
  unfold X
  omega
 exact h _
def Cl.size (c:Cl):Int:=X (oc64 c.a)+X (oc64 c.b)+X (oc64 c.c)+X (oc64 c.d)
set_option maxHeartbeats 4000000 in
theorem clSize (w:World) (c:Cl):Calls Tryz.prog 56 #[.agg (clA c)] w fun e w'=>e= .returned (.int .i64 c.size)∧Below w.heap.size w w':=by
 have x0:∀w,(Instr.index 65 (.agg (clA c)) (.int .i64 0)).run Tryz.prog w= .ok (.int .u64 (X c.a)) w:=fun w=>by first | rfl | kernel_rfl
 have x1:∀w,(Instr.index 65 (.agg (clA c)) (.int .i64 1)).run Tryz.prog w= .ok (.int .u64 (X c.b)) w:=fun w=>by first | rfl | kernel_rfl
 have x2:∀w,(Instr.index 65 (.agg (clA c)) (.int .i64 2)).run Tryz.prog w= .ok (.int .u64 (X c.c)) w:=fun w=>by first | rfl | kernel_rfl
 have x3:∀w,(Instr.index 65 (.agg (clA c)) (.int .i64 3)).run Tryz.prog w= .ok (.int .u64 (X c.d)) w:=fun w=>by first | rfl | kernel_rfl
 have hr:Row oV (w.alloc (.cells (clA c) 65)) w.heap.size 65 (clL c):=Row.new _ _ rfl
 have hB:Below w.heap.size w (w.alloc (.cells (clA c) 65)):=(Below.refl _ _).alloc (Nat.le_refl _) _
 go_enter Tryz.func56,Tryz.ntmps56
 go_wp2_with (first
  | ((with_reducible refine zL hr.at aggCl rfl (C:=clA c) ?_)))
 generalize (w.alloc (.cells (clA c) 65))=W at hB ⊢
 clear hr
 have b1:=oc64_le c.a;have b2:=oc64_le c.b;have b3:=oc64_le c.c;have b4:=oc64_le c.d
 have n1:=X_nonneg (oc64 c.a);have n2:=X_nonneg (oc64 c.b);have n3:=X_nonneg (oc64 c.c);have n4:=X_nonneg (oc64 c.d)
 have w1:wrap64 (X (oc64 c.a))=X (oc64 c.a):=by unfold wrap64;omega
 have w2:wrap64 (X (oc64 c.a)+X (oc64 c.b))=X (oc64 c.a)+X (oc64 c.b):=by unfold wrap64;omega
 have w3:wrap64 (X (oc64 c.a)+X (oc64 c.b)+X (oc64 c.c))=X (oc64 c.a)+X (oc64 c.b)+X (oc64 c.c):=by unfold wrap64;omega
 have w4:wrap64 (X (oc64 c.a)+X (oc64 c.b)+X (oc64 c.c)+X (oc64 c.d))=X (oc64 c.a)+X (oc64 c.b)+X (oc64 c.c)+X (oc64 c.d):=by unfold wrap64;omega
 refine wp_loop_rounds 5 ?_
 refine rounds_step (n:=4) ?_
 go_wp2_with fail
 refine (onesCount _ c.a).mono ?_
 rintro e W0 ⟨rfl,rfl⟩
 go_wp2_with fail
 refine rounds_step (n:=3) ?_
 go_wp2_with fail
 refine (onesCount _ c.b).mono ?_
 rintro e W1 ⟨rfl,rfl⟩
 go_wp2_with fail
 refine rounds_step (n:=2) ?_
 go_wp2_with fail
 refine (onesCount _ c.c).mono ?_
 rintro e W2 ⟨rfl,rfl⟩
 go_wp2_with fail
 refine rounds_step (n:=1) ?_
 go_wp2_with fail
 refine (onesCount _ c.d).mono ?_
 rintro e W3 ⟨rfl,rfl⟩
 go_wp2_with fail
 refine rounds_step (n:=0) ?_
 go_wp2
 go_ret
 exact ⟨rfl,hB⟩
end Go.Proofs.YtncnfncglacheaaGreatDoor
namespace Go.Proofs.YtncnfncglacheaaGreatDoor
open Go Go.RowKit Mem
set_option maxRecDepth 100000
def Cl.w (c:Cl) (i:Nat):UInt64:=match i with | 0=>c.a | 1=>c.b | 2=>c.c | _=>c.d
def Cl.has (c:Cl) (b:UInt8):Bool:=c.w (b.toNat / 64) &&& ((1:UInt64)<<<UInt64.ofNat (b.toNat % 64)) !=0
theorem clL_get (c:Cl) (q:Nat) (h:q<4):(clL c)[q]?=some (ow (X (c.w q))):=by
 rcases (by omega:q=0∨q=1∨q=2∨q=3) with rfl | rfl | rfl | rfl<;>rfl
theorem X_pow (r:Nat) (h:r<64):IntKind.u64.wrap ((2:Int) ^ r)=X ((1:UInt64)<<<UInt64.ofNat r):=by
 unfold X
 rw [IntKind.wrap_u64,UInt64.toNat_shiftLeft,Nat.shiftLeft_eq]
 have h1:(UInt64.ofNat r).toNat % 64=r:=by rw [UInt64.toNat_ofNat_of_lt' (by simp [UInt64.size];omega)];omega
 rw [h1,show (1:UInt64).toNat=1 from rfl,Nat.one_mul]
 simp
theorem has_bits (x:UInt64) (r:Nat) (h:r<64):(bits .and .u64 (X x) (IntKind.u64.wrap ((2:Int) ^ r)) !=0)=(x &&& ((1:UInt64)<<<UInt64.ofNat r) !=0):=by
 rw [X_pow r h,X_and]
 generalize x &&& _=y
 have:X y=0↔y=0:=⟨fun h=>X_inj (y:=0) h,fun h=>by rw [h];rfl⟩
 rw [Bool.eq_iff_iff]
 simp [this]
set_option maxHeartbeats 4000000 in
theorem clHas (w:World) (c:Cl) (b:UInt8):Calls Tryz.prog 118 #[.agg (clA c), .int .u8 (b.toNat:Int)] w fun e w'=>e= .returned (.bool (c.has b))∧Below w.heap.size w w':=by
 obtain ⟨q,r,hq,hr,hn⟩:∃q r,q<4∧r<64∧b.toNat=64 * q+r:=⟨b.toNat / 64,b.toNat % 64,by have:=b.toNat_lt;omega,by omega,by omega⟩
 have hh:c.has b=(c.w q &&& ((1:UInt64)<<<UInt64.ofNat r) !=0):=by
  unfold Cl.has
  rw [show b.toNat / 64=q by omega,show b.toNat % 64=r by omega]
 rw [hh]
 have hrow:Row oV (w.alloc (.cells (clA c) 65)) w.heap.size 65 (clL c):=Row.new _ _ rfl
 have hB:Below w.heap.size w (w.alloc (.cells (clA c) 65)):=(Below.refl _ _).alloc (Nat.le_refl _) _
 have hc:(w.alloc (.cells (clA c) 65)).cell? ⟨w.heap.size,q,none⟩=some (.int .u64 (X (c.w q))):=by rw [hrow.cell?,clL_get c q hq];rfl
 have d1:((b.toNat:Int)).tdiv 64=(q:Int):=by rw [hn,Int.tdiv_eq_ediv_of_nonneg (by omega)];omega
 have d2:((b.toNat:Int)).tmod 64=(r:Int):=by rw [hn,Int.tmod_eq_emod_of_nonneg (by omega)];omega
 have d3:(b.toNat:Int) / 64=(q:Int):=by omega
 have d4:(b.toNat:Int) % 64=(r:Int):=by omega
 clear hn hrow hh
 go_enter Tryz.func118,Tryz.ntmps118
 go_upto_region 1 with (fail)
 generalize (w.alloc (.cells (clA c) 65))=W at hB hc ⊢
 have hq':(q:Int)<4:=by omega
 go_wp2_with fail
 go_ret
 exact ⟨by rw [← has_bits _ r hr];rfl,hB⟩
end Go.Proofs.YtncnfncglacheaaGreatDoor
namespace Go.Proofs.YtncnfncglacheaaGreatDoor
open Go Go.RowKit Mem
set_option maxRecDepth 100000
theorem below_al {B:Nat} {a w:World} (h:Below B a w) (hB:B≤a.heap.size) (o:Obj):Below B a (w.alloc o):=h.alloc (Nat.le_trans hB h.size) o
theorem or64 (w:World) (x y:UInt64):Calls Tryz.prog 95 #[.int .u64 (X x), .int .u64 (X y)] w fun e w'=>e= .returned (.int .u64 (X (x ||| y)))∧w'=w:=by
 have h:=X_or x y
 go_enter Tryz.func95,Tryz.ntmps95
 go_wp2
 go_ret
 exact ⟨rfl,rfl⟩
def Cl.union (x y:Cl):Cl:=⟨x.a ||| y.a,x.b ||| y.b,x.c ||| y.c,x.d ||| y.d⟩
abbrev zCl:Array Value:= #[.int .u64 0, .int .u64 0, .int .u64 0, .int .u64 0]
set_option maxHeartbeats 8000000 in
theorem clCombine (w:World) (x y:Cl):Calls Tryz.prog 94 #[.agg (clA x), .agg (clA y), .func (.func 95) #[] #[]] w fun e w'=>e= .returned (.agg (clA (x.union y)))∧Below w.heap.size w w':=by
 go_enter Tryz.func94,Tryz.ntmps94
 go_upto_region 2 with (fail)
 obtain ⟨W,hW,hB,hs,r0,r1,r2,r3⟩:∃W,((((w.alloc (.cells (clA x) 65)).alloc (.cells (clA y) 65)).alloc (.cells zCl 65)).alloc (.cells zCl 65))=W∧Below w.heap.size w W∧W.heap.size=w.heap.size+4∧W.heap[w.heap.size]?=some (.cells (clA x) 65 (0,0))∧W.heap[w.heap.size+1]?=some (.cells (clA y) 65 (0,0))∧W.heap[w.heap.size+1+1]?=some (.cells zCl 65 (0,0))∧W.heap[w.heap.size+1+1+1]?=some (.cells zCl 65 (0,0)):=by
  refine ⟨_,rfl,?_,by simp,?_,?_,?_,?_⟩
  ·exact below_al (below_al (below_al (below_al (Below.refl _ _) (Nat.le_refl _) _) (Nat.le_refl _) _) (Nat.le_refl _) _) (Nat.le_refl _) _
  all_goals repeat (first | (refine heap_new' _ _ _ ?_;(simp;done)) | (refine (Below.heap_alloc _ _ _ ?_).trans ?_;·(simp<;>omega)))
 rw [hW]
 clear hW
 replace r0:Row oV W w.heap.size 65 (clL x):=r0
 replace r1:Row oV W (w.heap.size+1) 65 (clL y):=r1
 replace r2:Row oV W (w.heap.size+1+1) 65 [ow 0,ow 0,ow 0,ow 0]:=r2
 replace r3:Row oV W (w.heap.size+1+1+1) 65 [ow 0,ow 0,ow 0,ow 0]:=r3
 have hs':w.heap.size+4≤W.heap.size:=Nat.le_of_eq hs.symm
 clear hs
 go_wp2_with fail
 refine wp_loop_rounds 5 ?_
 refine rounds_step (n:=4) ?_
 go_upto_region 5 with (fail)
 have ha:∀X,Below W.heap.size W X→X.cell? ⟨w.heap.size,0,none⟩=some (.int .u64 (Go.Proofs.YtncnfncglacheaaGreatDoor.X x.a)):=fun X h=>by rw [(r0.below h r0.lt).cell?];rfl
 have hb:∀X,Below W.heap.size W X→X.cell? ⟨w.heap.size+1,0,none⟩=some (.int .u64 (Go.Proofs.YtncnfncglacheaaGreatDoor.X y.a)):=fun X h=>by rw [(r1.below h r1.lt).cell?];rfl
 refine region_headsT (S:=fun X=>Below W.heap.size W X) 9 rfl (by kernel_rfl) (Below.refl _ _).drew fun hS=> ?_
 refine tk 0 12 (.int .i64 0) hS ?_
 refine tk 1 13 (.func (.func 95) #[] #[]) hS ?_
 refine tk 2 14 (.int .i64 0) hS ?_
 refine tk 3 15 (.pointer (some ⟨w.heap.size,0,none⟩)) hS ?_
 refine tk 4 16 (.int .u64 (X x.a)) hS ?_ rfl (qi fun W' h=>by have q0:=ha W' h;have q1:=hb W' h;go_simp)
 refine tk 5 17 (.int .i64 0) hS ?_
 refine tk 6 18 (.pointer (some ⟨w.heap.size+1,0,none⟩)) hS ?_
 refine tk 7 19 (.int .u64 (X y.a)) hS ?_ rfl (qi fun W' h=>by have q0:=ha W' h;have q1:=hb W' h;go_simp)
 refine rdT 8 (fun K' hK=> ?_)
 refine cD 20 95 #[.int .u64 (X x.a), .int .u64 (X y.a)] ?_
 refine (or64 _ x.a y.a).mono ?_
 rintro e Wa ⟨rfl,rfl⟩
 refine ⟨_,rfl,hK.out _ _ hS fun _=> ?_⟩
 clear hK ha hb
 simp only [sA,sB,sC]
 refine headsT_tail (by kernel_rfl) ?_
 simp only [List.drop]
 replace r0:=r0.drew
 replace r1:=r1.drew
 replace r2:=r2.drew
 replace r3:=r3.drew
 replace hB:=hB.drew
 replace hs':w.heap.size+4≤W.drew.heap.size:=hs'
 clear hS
 generalize W.drew=Y at *
 have e3:Y.cell? ⟨w.heap.size+1+1+1,0,none⟩=some (.int .u64 0):=by rw [r3.cell?];rfl
 have f3:=r3.frozen 0
 go_wp2_with fail
 replace r3:Row oV (Y.setCell ⟨w.heap.size+1+1+1,0,none⟩ (.int .u64 (X (x.a ||| y.a)))) (w.heap.size+1+1+1) 65 [ow (X (x.a ||| y.a)),ow 0,ow 0,ow 0]:=r3.set 0 (ow (X (x.a ||| y.a)))
 replace r0:=r0.set_other (b':=w.heap.size+1+1+1) (by omega) 0 (.int .u64 (X (x.a ||| y.a)))
 replace r1:=r1.set_other (b':=w.heap.size+1+1+1) (by omega) 0 (.int .u64 (X (x.a ||| y.a)))
 replace r2:=r2.set_other (b':=w.heap.size+1+1+1) (by omega) 0 (.int .u64 (X (x.a ||| y.a)))
 replace hB:=below_set hB (b:=w.heap.size+1+1+1) 0 (by omega) (.int .u64 (X (x.a ||| y.a)))
 replace hs':w.heap.size+4≤(Y.setCell ⟨w.heap.size+1+1+1,0,none⟩ (.int .u64 (X (x.a ||| y.a)))).heap.size:=by simpa using hs'
 clear e3 f3
 generalize (Y.setCell ⟨w.heap.size+1+1+1,0,none⟩ (.int .u64 (X (x.a ||| y.a))))=W at *
 refine rounds_step (n:=3) ?_
 go_upto_region 5 with (fail)
 have ha:∀X,Below W.heap.size W X→X.cell? ⟨w.heap.size,1,none⟩=some (.int .u64 (Go.Proofs.YtncnfncglacheaaGreatDoor.X x.b)):=fun X h=>by rw [(r0.below h r0.lt).cell?];rfl
 have hb:∀X,Below W.heap.size W X→X.cell? ⟨w.heap.size+1,1,none⟩=some (.int .u64 (Go.Proofs.YtncnfncglacheaaGreatDoor.X y.b)):=fun X h=>by rw [(r1.below h r1.lt).cell?];rfl
 refine region_headsT (S:=fun X=>Below W.heap.size W X) 9 rfl (by kernel_rfl) (Below.refl _ _).drew fun hS=> ?_
 refine tk 0 12 (.int .i64 1) hS ?_
 refine tk 1 13 (.func (.func 95) #[] #[]) hS ?_
 refine tk 2 14 (.int .i64 1) hS ?_
 refine tk 3 15 (.pointer (some ⟨w.heap.size,1,none⟩)) hS ?_
 refine tk 4 16 (.int .u64 (X x.b)) hS ?_ rfl (qi fun W' h=>by have q0:=ha W' h;have q1:=hb W' h;go_simp)
 refine tk 5 17 (.int .i64 1) hS ?_
 refine tk 6 18 (.pointer (some ⟨w.heap.size+1,1,none⟩)) hS ?_
 refine tk 7 19 (.int .u64 (X y.b)) hS ?_ rfl (qi fun W' h=>by have q0:=ha W' h;have q1:=hb W' h;go_simp)
 refine rdT 8 (fun K' hK=> ?_)
 refine cD 20 95 #[.int .u64 (X x.b), .int .u64 (X y.b)] ?_
 refine (or64 _ x.b y.b).mono ?_
 rintro e Wa ⟨rfl,rfl⟩
 refine ⟨_,rfl,hK.out _ _ hS fun _=> ?_⟩
 clear hK ha hb
 simp only [sA,sB,sC]
 refine headsT_tail (by kernel_rfl) ?_
 simp only [List.drop]
 replace r0:=r0.drew
 replace r1:=r1.drew
 replace r2:=r2.drew
 replace r3:=r3.drew
 replace hB:=hB.drew
 replace hs':w.heap.size+4≤W.drew.heap.size:=hs'
 clear hS
 generalize W.drew=Y at *
 have e3:Y.cell? ⟨w.heap.size+1+1+1,1,none⟩=some (.int .u64 0):=by rw [r3.cell?];rfl
 have f3:=r3.frozen 1
 go_wp2_with fail
 replace r3:Row oV (Y.setCell ⟨w.heap.size+1+1+1,1,none⟩ (.int .u64 (X (x.b ||| y.b)))) (w.heap.size+1+1+1) 65 [ow (X (x.a ||| y.a)),ow (X (x.b ||| y.b)),ow 0,ow 0]:=r3.set 1 (ow (X (x.b ||| y.b)))
 replace r0:=r0.set_other (b':=w.heap.size+1+1+1) (by omega) 1 (.int .u64 (X (x.b ||| y.b)))
 replace r1:=r1.set_other (b':=w.heap.size+1+1+1) (by omega) 1 (.int .u64 (X (x.b ||| y.b)))
 replace r2:=r2.set_other (b':=w.heap.size+1+1+1) (by omega) 1 (.int .u64 (X (x.b ||| y.b)))
 replace hB:=below_set hB (b:=w.heap.size+1+1+1) 1 (by omega) (.int .u64 (X (x.b ||| y.b)))
 replace hs':w.heap.size+4≤(Y.setCell ⟨w.heap.size+1+1+1,1,none⟩ (.int .u64 (X (x.b ||| y.b)))).heap.size:=by simpa using hs'
 clear e3 f3
 generalize (Y.setCell ⟨w.heap.size+1+1+1,1,none⟩ (.int .u64 (X (x.b ||| y.b))))=W at *
 refine rounds_step (n:=2) ?_
 go_upto_region 5 with (fail)
 have ha:∀X,Below W.heap.size W X→X.cell? ⟨w.heap.size,2,none⟩=some (.int .u64 (Go.Proofs.YtncnfncglacheaaGreatDoor.X x.c)):=fun X h=>by rw [(r0.below h r0.lt).cell?];rfl
 have hb:∀X,Below W.heap.size W X→X.cell? ⟨w.heap.size+1,2,none⟩=some (.int .u64 (Go.Proofs.YtncnfncglacheaaGreatDoor.X y.c)):=fun X h=>by rw [(r1.below h r1.lt).cell?];rfl
 refine region_headsT (S:=fun X=>Below W.heap.size W X) 9 rfl (by kernel_rfl) (Below.refl _ _).drew fun hS=> ?_
 refine tk 0 12 (.int .i64 2) hS ?_
 refine tk 1 13 (.func (.func 95) #[] #[]) hS ?_
 refine tk 2 14 (.int .i64 2) hS ?_
 refine tk 3 15 (.pointer (some ⟨w.heap.size,2,none⟩)) hS ?_
 refine tk 4 16 (.int .u64 (X x.c)) hS ?_ rfl (qi fun W' h=>by have q0:=ha W' h;have q1:=hb W' h;go_simp)
 refine tk 5 17 (.int .i64 2) hS ?_
 refine tk 6 18 (.pointer (some ⟨w.heap.size+1,2,none⟩)) hS ?_
 refine tk 7 19 (.int .u64 (X y.c)) hS ?_ rfl (qi fun W' h=>by have q0:=ha W' h;have q1:=hb W' h;go_simp)
 refine rdT 8 (fun K' hK=> ?_)
 refine cD 20 95 #[.int .u64 (X x.c), .int .u64 (X y.c)] ?_
 refine (or64 _ x.c y.c).mono ?_
 rintro e Wa ⟨rfl,rfl⟩
 refine ⟨_,rfl,hK.out _ _ hS fun _=> ?_⟩
 clear hK ha hb
 simp only [sA,sB,sC]
 refine headsT_tail (by kernel_rfl) ?_
 simp only [List.drop]
 replace r0:=r0.drew
 replace r1:=r1.drew
 replace r2:=r2.drew
 replace r3:=r3.drew
 replace hB:=hB.drew
 replace hs':w.heap.size+4≤W.drew.heap.size:=hs'
 clear hS
 generalize W.drew=Y at *
 have e3:Y.cell? ⟨w.heap.size+1+1+1,2,none⟩=some (.int .u64 0):=by rw [r3.cell?];rfl
 have f3:=r3.frozen 2
 go_wp2_with fail
 replace r3:Row oV (Y.setCell ⟨w.heap.size+1+1+1,2,none⟩ (.int .u64 (X (x.c ||| y.c)))) (w.heap.size+1+1+1) 65 [ow (X (x.a ||| y.a)),ow (X (x.b ||| y.b)),ow (X (x.c ||| y.c)),ow 0]:=r3.set 2 (ow (X (x.c ||| y.c)))
 replace r0:=r0.set_other (b':=w.heap.size+1+1+1) (by omega) 2 (.int .u64 (X (x.c ||| y.c)))
 replace r1:=r1.set_other (b':=w.heap.size+1+1+1) (by omega) 2 (.int .u64 (X (x.c ||| y.c)))
 replace r2:=r2.set_other (b':=w.heap.size+1+1+1) (by omega) 2 (.int .u64 (X (x.c ||| y.c)))
 replace hB:=below_set hB (b:=w.heap.size+1+1+1) 2 (by omega) (.int .u64 (X (x.c ||| y.c)))
 replace hs':w.heap.size+4≤(Y.setCell ⟨w.heap.size+1+1+1,2,none⟩ (.int .u64 (X (x.c ||| y.c)))).heap.size:=by simpa using hs'
 clear e3 f3
 generalize (Y.setCell ⟨w.heap.size+1+1+1,2,none⟩ (.int .u64 (X (x.c ||| y.c))))=W at *
 refine rounds_step (n:=1) ?_
 go_upto_region 5 with (fail)
 have ha:∀X,Below W.heap.size W X→X.cell? ⟨w.heap.size,3,none⟩=some (.int .u64 (Go.Proofs.YtncnfncglacheaaGreatDoor.X x.d)):=fun X h=>by rw [(r0.below h r0.lt).cell?];rfl
 have hb:∀X,Below W.heap.size W X→X.cell? ⟨w.heap.size+1,3,none⟩=some (.int .u64 (Go.Proofs.YtncnfncglacheaaGreatDoor.X y.d)):=fun X h=>by rw [(r1.below h r1.lt).cell?];rfl
 refine region_headsT (S:=fun X=>Below W.heap.size W X) 9 rfl (by kernel_rfl) (Below.refl _ _).drew fun hS=> ?_
 refine tk 0 12 (.int .i64 3) hS ?_
 refine tk 1 13 (.func (.func 95) #[] #[]) hS ?_
 refine tk 2 14 (.int .i64 3) hS ?_
 refine tk 3 15 (.pointer (some ⟨w.heap.size,3,none⟩)) hS ?_
 refine tk 4 16 (.int .u64 (X x.d)) hS ?_ rfl (qi fun W' h=>by have q0:=ha W' h;have q1:=hb W' h;go_simp)
 refine tk 5 17 (.int .i64 3) hS ?_
 refine tk 6 18 (.pointer (some ⟨w.heap.size+1,3,none⟩)) hS ?_
 refine tk 7 19 (.int .u64 (X y.d)) hS ?_ rfl (qi fun W' h=>by have q0:=ha W' h;have q1:=hb W' h;go_simp)
 refine rdT 8 (fun K' hK=> ?_)
 refine cD 20 95 #[.int .u64 (X x.d), .int .u64 (X y.d)] ?_
 refine (or64 _ x.d y.d).mono ?_
 rintro e Wa ⟨rfl,rfl⟩
 refine ⟨_,rfl,hK.out _ _ hS fun _=> ?_⟩
 clear hK ha hb
 simp only [sA,sB,sC]
 refine headsT_tail (by kernel_rfl) ?_
 simp only [List.drop]
 replace r0:=r0.drew
 replace r1:=r1.drew
 replace r2:=r2.drew
 replace r3:=r3.drew
 replace hB:=hB.drew
 replace hs':w.heap.size+4≤W.drew.heap.size:=hs'
 clear hS
 generalize W.drew=Y at *
 have e3:Y.cell? ⟨w.heap.size+1+1+1,3,none⟩=some (.int .u64 0):=by rw [r3.cell?];rfl
 have f3:=r3.frozen 3
 go_wp2_with fail
 replace r3:Row oV (Y.setCell ⟨w.heap.size+1+1+1,3,none⟩ (.int .u64 (X (x.d ||| y.d)))) (w.heap.size+1+1+1) 65 [ow (X (x.a ||| y.a)),ow (X (x.b ||| y.b)),ow (X (x.c ||| y.c)),ow (X (x.d ||| y.d))]:=r3.set 3 (ow (X (x.d ||| y.d)))
 replace r0:=r0.set_other (b':=w.heap.size+1+1+1) (by omega) 3 (.int .u64 (X (x.d ||| y.d)))
 replace r1:=r1.set_other (b':=w.heap.size+1+1+1) (by omega) 3 (.int .u64 (X (x.d ||| y.d)))
 replace r2:=r2.set_other (b':=w.heap.size+1+1+1) (by omega) 3 (.int .u64 (X (x.d ||| y.d)))
 replace hB:=below_set hB (b:=w.heap.size+1+1+1) 3 (by omega) (.int .u64 (X (x.d ||| y.d)))
 replace hs':w.heap.size+4≤(Y.setCell ⟨w.heap.size+1+1+1,3,none⟩ (.int .u64 (X (x.d ||| y.d)))).heap.size:=by simpa using hs'
 clear e3 f3
 generalize (Y.setCell ⟨w.heap.size+1+1+1,3,none⟩ (.int .u64 (X (x.d ||| y.d))))=W at *
 refine rounds_step (n:=0) ?_
 go_wp2_with (first
  | ((with_reducible refine zL (Row.at r3) aggCl rfl (C:=clA (x.union y)) ?_))
  | ((with_reducible refine zS (l':=clL (x.union y)) r2 aggCl ?_);(intro W6 hs6 hG6 hz6)))
 refine bodyPost_ret (results_agg (f:=oV) (l:=clL (x.union y)) rfl _ aggCl (w.heap.size+1+1) 0 rfl hs6.at) rfl ?_
 exact ⟨rfl,hB.grown hG6 hB.size (fun k e=>by cases e;omega)⟩
theorem clUnion (w:World) (x y:Cl):Calls Tryz.prog 57 #[.agg (clA x), .agg (clA y)] w fun e w'=>e= .returned (.agg (clA (x.union y)))∧Below w.heap.size w w':=by
 go_enter Tryz.func57,Tryz.ntmps57
 go_upto_region 1 with (fail)
 obtain ⟨W,hW,hB,hs,r0,r1,r2⟩:∃W,(((w.alloc (.cells (clA x) 65)).alloc (.cells (clA y) 65)).alloc (.cells zCl 65))=W∧Below w.heap.size w W∧W.heap.size=w.heap.size+3∧W.heap[w.heap.size]?=some (.cells (clA x) 65 (0,0))∧W.heap[w.heap.size+1]?=some (.cells (clA y) 65 (0,0))∧W.heap[w.heap.size+1+1]?=some (.cells zCl 65 (0,0)):=by
  refine ⟨_,rfl,?_,by simp,?_,?_,?_⟩
  ·exact below_al (below_al (below_al (Below.refl _ _) (Nat.le_refl _) _) (Nat.le_refl _) _) (Nat.le_refl _) _
  all_goals repeat (first | (refine heap_new' _ _ _ ?_;(simp;done)) | (refine (Below.heap_alloc _ _ _ ?_).trans ?_;·(simp<;>omega)))
 rw [hW]
 clear hW
 replace r0:Row oV W w.heap.size 65 (clL x):=r0
 replace r1:Row oV W (w.heap.size+1) 65 (clL y):=r1
 replace r2:Row oV W (w.heap.size+1+1) 65 [ow 0,ow 0,ow 0,ow 0]:=r2
 have hs':w.heap.size+3≤W.heap.size:=Nat.le_of_eq hs.symm
 clear hs
 go_wp2_with (first
  | ((with_reducible refine zL r0.at aggCl rfl (C:=clA x) ?_))
  | ((with_reducible refine zL r1.at aggCl rfl (C:=clA y) ?_)))
 refine (clCombine W x y).mono ?_
 rintro e W2 ⟨rfl,hB2⟩
 replace r2:=r2.below hB2 r2.lt
 replace hB:=hB.trans (hB2.mono hB.size)
 go_wp2_with (first
  | ((with_reducible refine zS (l':=clL (x.union y)) r2 aggCl ?_);(intro W6 hs6 hG6 hz6)))
 refine bodyPost_ret (results_agg (f:=oV) (l:=clL (x.union y)) rfl _ aggCl (w.heap.size+1+1) 0 rfl hs6.at) rfl ?_
 exact ⟨rfl,hB.grown hG6 hB.size (fun k e=>by cases e;omega)⟩
end Go.Proofs.YtncnfncglacheaaGreatDoor
namespace Go.Proofs.YtncnfncglacheaaGreatDoor
open Go Go.RowKit Mem
set_option maxRecDepth 100000
def Cl.mem (c:Cl) (i:Nat):Bool:=(c.w (i / 64)).toNat.testBit (i % 64)
theorem pow_nat (r:Nat) (h:r<64):((1:UInt64)<<<UInt64.ofNat r).toNat=2 ^ r:=by
 rw [UInt64.toNat_shiftLeft,Nat.shiftLeft_eq]
 have h1:(UInt64.ofNat r).toNat % 64=r:=by rw [UInt64.toNat_ofNat_of_lt' (by simp [UInt64.size];omega)];omega
 rw [h1,show (1:UInt64).toNat=1 from rfl,Nat.one_mul]
 exact Nat.mod_eq_of_lt (Nat.pow_lt_pow_right (by omega) h)
theorem u64_ext (x y:UInt64) (h:∀i,i<64→x.toNat.testBit i=y.toNat.testBit i):x=y:=by
 apply UInt64.toNat_inj.1
 apply Nat.eq_of_testBit_eq
 intro i
 rcases Nat.lt_or_ge i 64 with hi | hi
 ·exact h i hi
 ·have hp:2 ^ 64≤2 ^ i:=Nat.pow_le_pow_right (by omega) hi
  rw [Nat.testBit_lt_two_pow (Nat.lt_of_lt_of_le x.toNat_lt hp),Nat.testBit_lt_two_pow (Nat.lt_of_lt_of_le y.toNat_lt hp)]
theorem Cl.mem_at (c:Cl) (q i:Nat) (hi:i<64):c.mem (64 * q+i)=(c.w q).toNat.testBit i:=by
 unfold Cl.mem
 rw [show (64 * q+i) / 64=q by omega,show (64 * q+i) % 64=i by omega]
theorem Cl.ext_mem (c d:Cl) (h:∀i,i<256→c.mem i=d.mem i):c=d:=by
 have hw:∀q,q<4→c.w q=d.w q:=fun q hq=>u64_ext _ _ fun i hi=>by
  rw [← c.mem_at q i hi,← d.mem_at q i hi];exact h _ (by omega)
 have h0:=hw 0 (by omega);have h1:=hw 1 (by omega);have h2:=hw 2 (by omega);have h3:=hw 3 (by omega)
 cases c;cases d
 simp only [Cl.w] at h0 h1 h2 h3
 subst h0;subst h1;subst h2;subst h3
 rfl
def Cl.setW (c:Cl) (q:Nat) (x:UInt64):Cl:=match q with | 0=>{c with a:=x} | 1=>{c with b:=x} | 2=>{c with c:=x} | _=>{c with d:=x}
theorem Cl.setW_w (c:Cl) (q p:Nat) (x:UInt64) (hq:q<4) (hp:p<4):(c.setW q x).w p=if p=q then x else c.w p:=by
 rcases (by omega:q=0∨q=1∨q=2∨q=3) with rfl | rfl | rfl | rfl<;>rcases (by omega:p=0∨p=1∨p=2∨p=3) with rfl | rfl | rfl | rfl<;>rfl
def Cl.add (c:Cl) (b:Nat):Cl:=c.setW (b / 64) (c.w (b / 64) ||| ((1:UInt64)<<<UInt64.ofNat (b % 64)))
theorem Cl.add_mem (c:Cl) (b i:Nat) (hb:b<256) (hi:i<256):(c.add b).mem i=(c.mem i || decide (i=b)):=by
 unfold Cl.add Cl.mem
 rw [Cl.setW_w _ _ _ _ (by omega) (by omega)]
 by_cases h:i / 64=b / 64
 ·rw [if_pos h,UInt64.toNat_or,pow_nat _ (Nat.mod_lt _ (by omega)),Nat.testBit_or,Nat.testBit_two_pow,h]
  congr 1
  by_cases h2:i=b
  ·subst h2;simp
  ·rw [decide_eq_false h2,decide_eq_false (by omega)]
 ·rw [if_neg h,decide_eq_false (by intro e;subst e;exact h rfl),Bool.or_false]
abbrev zeroC:Cl:=⟨0,0,0,0⟩
theorem zero_mem (i:Nat):zeroC.mem i=false:=by
 unfold Cl.mem
 have:∀q,zeroC.w q=0:=fun q=>by unfold Cl.w;split<;>rfl
 rw [this]
 exact Nat.zero_testBit _
def fillC (p:Nat→Bool) (n:Nat):Cl:=(List.range n).foldl (fun c i=>if p i=true then c.add i else c) zeroC
theorem fillC_succ (p:Nat→Bool) (n:Nat):fillC p (n+1)=if p n=true then (fillC p n).add n else fillC p n:=by
 unfold fillC;rw [List.range_succ,List.foldl_append];rfl
theorem fillC_mem (p:Nat→Bool) (n:Nat) (hn:n≤256) (i:Nat) (hi:i<256):(fillC p n).mem i=(decide (i<n) && p i):=by
 induction n with
 | zero=>rw [show fillC p 0=zeroC from rfl,zero_mem];simp
 | succ n ih=>
  have ih:=ih (by omega)
  rw [fillC_succ]
  by_cases hp:p n=true
  ·rw [if_pos hp,Cl.add_mem _ _ _ (by omega) hi,ih]
   by_cases h:i=n
   ·subst h;simp [hp]
   ·have:decide (i<n+1)=decide (i<n):=decide_eq_decide.2 (by omega)
    rw [this];simp [h]
  ·rw [if_neg hp,ih]
   by_cases h:i=n
   ·subst h;simp [hp]
   ·have:decide (i<n+1)=decide (i<n):=decide_eq_decide.2 (by omega)
    rw [this]
def Cl.inter (a b:Cl):Cl:=⟨a.a &&& b.a,a.b &&& b.b,a.c &&& b.c,a.d &&& b.d⟩
theorem union_mem (a b:Cl) (i:Nat):(a.union b).mem i=(a.mem i || b.mem i):=by
 unfold Cl.mem
 have:(a.union b).w (i / 64)=a.w (i / 64) ||| b.w (i / 64):=by unfold Cl.w;split<;>rfl
 rw [this,UInt64.toNat_or,Nat.testBit_or]
theorem inter_mem (a b:Cl) (i:Nat):(a.inter b).mem i=(a.mem i && b.mem i):=by
 unfold Cl.mem
 have:(a.inter b).w (i / 64)=a.w (i / 64) &&& b.w (i / 64):=by unfold Cl.w;split<;>rfl
 rw [this,UInt64.toNat_and,Nat.testBit_and]
theorem fill_union (a b:Cl):fillC (fun i=>a.mem i || b.mem i) 256=a.union b:=Cl.ext_mem _ _ fun i hi=>by
 rw [fillC_mem _ _ (Nat.le_refl _) _ hi,union_mem,decide_eq_true hi,Bool.true_and]
theorem foldl_union_mem (l:List Cl) (i:Nat):∀a:Cl,(l.foldl Cl.union a).mem i=(a.mem i || l.any fun c=>c.mem i):=by
 induction l with
 | nil=>intro a;simp
 | cons c l ih=>intro a;rw [List.foldl_cons,ih,union_mem,List.any_cons,Bool.or_assoc]
def addAll (l:List UInt8):Cl:=l.foldl (fun c b=>c.add b.toNat) zeroC
theorem addAll_succ (l:List UInt8) (k:Nat) (h:k<l.length):addAll (l.take (k+1))=(addAll (l.take k)).add l[k].toNat:=by
 unfold addAll;rw [List.take_succ_eq_append_getElem h,List.foldl_append];rfl
end Go.Proofs.YtncnfncglacheaaGreatDoor
namespace Go.Proofs.YtncnfncglacheaaGreatDoor
open Go Go.RowKit Mem
set_option maxRecDepth 100000
def Cl.zip (f:UInt64→UInt64→UInt64) (x y:Cl):Cl:=⟨f x.a y.a,f x.b y.b,f x.c y.c,f x.d y.d⟩
theorem X_not (x:UInt64):bits .xor .u64 IntKind.u64.max (X x)=X (~~~x):=by
 unfold X
 rw [show IntKind.u64.max=((18446744073709551615:Nat):Int) by decide,u64_xor_nat _ _ (by omega) (u64_lt x)]
 have h:(18446744073709551615:UInt64) ^^^ x= ~~~x:=by
  apply UInt64.toBitVec_inj.1
  rw [UInt64.toBitVec_xor,UInt64.toBitVec_not]
  exact BitVec.allOnes_xor
 rw [← h,UInt64.toNat_xor]
 rfl
theorem X_andnot (x y:UInt64):bits .andNot .u64 (X x) (X y)=X (x &&& ~~~y):=by
 unfold X
 rw [u64_andNot_nat _ _ (u64_lt x) (u64_lt y),UInt64.toNat_and,UInt64.toNat_not]
 rfl
theorem not64 (w:World) (x y:UInt64):Calls Tryz.prog 145 #[.int .u64 (X x), .int .u64 (X y)] w fun e w'=>e= .returned (.int .u64 (X (~~~x)))∧w'=w:=by
 have h1:=X_and x y
 have h2:=X_not x
 have h3:=X_andnot x y
 go_enter Tryz.func145,Tryz.ntmps145
 go_wp2
 go_ret
 exact ⟨rfl,rfl⟩
theorem and64 (w:World) (x y:UInt64):Calls Tryz.prog 144 #[.int .u64 (X x), .int .u64 (X y)] w fun e w'=>e= .returned (.int .u64 (X (x &&& y)))∧w'=w:=by
 have h1:=X_and x y
 have h2:=X_not x
 have h3:=X_andnot x y
 go_enter Tryz.func144,Tryz.ntmps144
 go_wp2
 go_ret
 exact ⟨rfl,rfl⟩
theorem andnot64 (w:World) (x y:UInt64):Calls Tryz.prog 256 #[.int .u64 (X x), .int .u64 (X y)] w fun e w'=>e= .returned (.int .u64 (X (x &&& ~~~y)))∧w'=w:=by
 have h1:=X_and x y
 have h2:=X_not x
 have h3:=X_andnot x y
 go_enter Tryz.func256,Tryz.ntmps256
 go_wp2
 go_ret
 exact ⟨rfl,rfl⟩
set_option maxHeartbeats 8000000 in
theorem clCombineG (g:Nat) (hg:g=145∨g=144∨g=256) (f:UInt64→UInt64→UInt64)
  (hf:∀(w:World) (x y:UInt64),Calls Tryz.prog g #[.int .u64 (X x), .int .u64 (X y)] w fun e w'=>e= .returned (.int .u64 (X (f x y)))∧w'=w)
  (w:World) (x y:Cl):Calls Tryz.prog 94 #[.agg (clA x), .agg (clA y), .func (.func g) #[] #[]] w fun e w'=>e= .returned (.agg (clA (Cl.zip f x y)))∧Below w.heap.size w w':=by
 go_enter Tryz.func94,Tryz.ntmps94
 go_upto_region 2 with (fail)
 obtain ⟨W,hW,hB,hs,r0,r1,r2,r3⟩:∃W,((((w.alloc (.cells (clA x) 65)).alloc (.cells (clA y) 65)).alloc (.cells zCl 65)).alloc (.cells zCl 65))=W∧Below w.heap.size w W∧W.heap.size=w.heap.size+4∧W.heap[w.heap.size]?=some (.cells (clA x) 65 (0,0))∧W.heap[w.heap.size+1]?=some (.cells (clA y) 65 (0,0))∧W.heap[w.heap.size+1+1]?=some (.cells zCl 65 (0,0))∧W.heap[w.heap.size+1+1+1]?=some (.cells zCl 65 (0,0)):=by
  refine ⟨_,rfl,?_,by simp,?_,?_,?_,?_⟩
  ·exact below_al (below_al (below_al (below_al (Below.refl _ _) (Nat.le_refl _) _) (Nat.le_refl _) _) (Nat.le_refl _) _) (Nat.le_refl _) _
  all_goals repeat (first | (refine heap_new' _ _ _ ?_;(simp;done)) | (refine (Below.heap_alloc _ _ _ ?_).trans ?_;·(simp<;>omega)))
 rw [hW]
 clear hW
 replace r0:Row oV W w.heap.size 65 (clL x):=r0
 replace r1:Row oV W (w.heap.size+1) 65 (clL y):=r1
 replace r2:Row oV W (w.heap.size+1+1) 65 [ow 0,ow 0,ow 0,ow 0]:=r2
 replace r3:Row oV W (w.heap.size+1+1+1) 65 [ow 0,ow 0,ow 0,ow 0]:=r3
 have hs':w.heap.size+4≤W.heap.size:=Nat.le_of_eq hs.symm
 clear hs
 go_wp2_with fail
 refine wp_loop_rounds 5 ?_
 refine rounds_step (n:=4) ?_
 go_upto_region 5 with (fail)
 have ha:∀X,Below W.heap.size W X→X.cell? ⟨w.heap.size,0,none⟩=some (.int .u64 (Go.Proofs.YtncnfncglacheaaGreatDoor.X x.a)):=fun X h=>by rw [(r0.below h r0.lt).cell?];rfl
 have hb:∀X,Below W.heap.size W X→X.cell? ⟨w.heap.size+1,0,none⟩=some (.int .u64 (Go.Proofs.YtncnfncglacheaaGreatDoor.X y.a)):=fun X h=>by rw [(r1.below h r1.lt).cell?];rfl
 refine region_headsT (S:=fun X=>Below W.heap.size W X) 9 rfl (by kernel_rfl) (Below.refl _ _).drew fun hS=> ?_
 refine tk 0 12 (.int .i64 0) hS ?_
 refine tk 1 13 (.func (.func g) #[] #[]) hS ?_
 refine tk 2 14 (.int .i64 0) hS ?_
 refine tk 3 15 (.pointer (some ⟨w.heap.size,0,none⟩)) hS ?_
 refine tk 4 16 (.int .u64 (X x.a)) hS ?_ rfl (qi fun W' h=>by have q0:=ha W' h;have q1:=hb W' h;go_simp)
 refine tk 5 17 (.int .i64 0) hS ?_
 refine tk 6 18 (.pointer (some ⟨w.heap.size+1,0,none⟩)) hS ?_
 refine tk 7 19 (.int .u64 (X y.a)) hS ?_ rfl (qi fun W' h=>by have q0:=ha W' h;have q1:=hb W' h;go_simp)
 refine rdT 8 (fun K' hK=> ?_)
 refine callD (d:=20) (g:=g) (args:= #[.int .u64 (X x.a), .int .u64 (X y.a)]) rfl rfl (by rcases hg with rfl | rfl | rfl<;>first | kernel_rfl | (simp [execOp,resolve,invoke,Act.eval]) | go_simp) ?_
 refine (hf _ x.a y.a).mono ?_
 rintro e Wa ⟨rfl,rfl⟩
 refine ⟨_,rfl,hK.out _ _ hS fun _=> ?_⟩
 clear hK ha hb
 simp only [sA,sB,sC]
 refine headsT_tail (by kernel_rfl) ?_
 simp only [List.drop]
 replace r0:=r0.drew
 replace r1:=r1.drew
 replace r2:=r2.drew
 replace r3:=r3.drew
 replace hB:=hB.drew
 replace hs':w.heap.size+4≤W.drew.heap.size:=hs'
 clear hS
 generalize W.drew=Y at *
 have e3:Y.cell? ⟨w.heap.size+1+1+1,0,none⟩=some (.int .u64 0):=by rw [r3.cell?];rfl
 have f3:=r3.frozen 0
 go_wp2_with fail
 replace r3:Row oV (Y.setCell ⟨w.heap.size+1+1+1,0,none⟩ (.int .u64 (X (f x.a y.a)))) (w.heap.size+1+1+1) 65 [ow (X (f x.a y.a)),ow 0,ow 0,ow 0]:=r3.set 0 (ow (X (f x.a y.a)))
 replace r0:=r0.set_other (b':=w.heap.size+1+1+1) (by omega) 0 (.int .u64 (X (f x.a y.a)))
 replace r1:=r1.set_other (b':=w.heap.size+1+1+1) (by omega) 0 (.int .u64 (X (f x.a y.a)))
 replace r2:=r2.set_other (b':=w.heap.size+1+1+1) (by omega) 0 (.int .u64 (X (f x.a y.a)))
 replace hB:=below_set hB (b:=w.heap.size+1+1+1) 0 (by omega) (.int .u64 (X (f x.a y.a)))
 replace hs':w.heap.size+4≤(Y.setCell ⟨w.heap.size+1+1+1,0,none⟩ (.int .u64 (X (f x.a y.a)))).heap.size:=by simpa using hs'
 clear e3 f3
 generalize (Y.setCell ⟨w.heap.size+1+1+1,0,none⟩ (.int .u64 (X (f x.a y.a))))=W at *
 refine rounds_step (n:=3) ?_
 go_upto_region 5 with (fail)
 have ha:∀X,Below W.heap.size W X→X.cell? ⟨w.heap.size,1,none⟩=some (.int .u64 (Go.Proofs.YtncnfncglacheaaGreatDoor.X x.b)):=fun X h=>by rw [(r0.below h r0.lt).cell?];rfl
 have hb:∀X,Below W.heap.size W X→X.cell? ⟨w.heap.size+1,1,none⟩=some (.int .u64 (Go.Proofs.YtncnfncglacheaaGreatDoor.X y.b)):=fun X h=>by rw [(r1.below h r1.lt).cell?];rfl
 refine region_headsT (S:=fun X=>Below W.heap.size W X) 9 rfl (by kernel_rfl) (Below.refl _ _).drew fun hS=> ?_
 refine tk 0 12 (.int .i64 1) hS ?_
 refine tk 1 13 (.func (.func g) #[] #[]) hS ?_
 refine tk 2 14 (.int .i64 1) hS ?_
 refine tk 3 15 (.pointer (some ⟨w.heap.size,1,none⟩)) hS ?_
 refine tk 4 16 (.int .u64 (X x.b)) hS ?_ rfl (qi fun W' h=>by have q0:=ha W' h;have q1:=hb W' h;go_simp)
 refine tk 5 17 (.int .i64 1) hS ?_
 refine tk 6 18 (.pointer (some ⟨w.heap.size+1,1,none⟩)) hS ?_
 refine tk 7 19 (.int .u64 (X y.b)) hS ?_ rfl (qi fun W' h=>by have q0:=ha W' h;have q1:=hb W' h;go_simp)
 refine rdT 8 (fun K' hK=> ?_)
 refine callD (d:=20) (g:=g) (args:= #[.int .u64 (X x.b), .int .u64 (X y.b)]) rfl rfl (by rcases hg with rfl | rfl | rfl<;>first | kernel_rfl | (simp [execOp,resolve,invoke,Act.eval]) | go_simp) ?_
 refine (hf _ x.b y.b).mono ?_
 rintro e Wa ⟨rfl,rfl⟩
 refine ⟨_,rfl,hK.out _ _ hS fun _=> ?_⟩
 clear hK ha hb
 simp only [sA,sB,sC]
 refine headsT_tail (by kernel_rfl) ?_
 simp only [List.drop]
 replace r0:=r0.drew
 replace r1:=r1.drew
 replace r2:=r2.drew
 replace r3:=r3.drew
 replace hB:=hB.drew
 replace hs':w.heap.size+4≤W.drew.heap.size:=hs'
 clear hS
 generalize W.drew=Y at *
 have e3:Y.cell? ⟨w.heap.size+1+1+1,1,none⟩=some (.int .u64 0):=by rw [r3.cell?];rfl
 have f3:=r3.frozen 1
 go_wp2_with fail
 replace r3:Row oV (Y.setCell ⟨w.heap.size+1+1+1,1,none⟩ (.int .u64 (X (f x.b y.b)))) (w.heap.size+1+1+1) 65 [ow (X (f x.a y.a)),ow (X (f x.b y.b)),ow 0,ow 0]:=r3.set 1 (ow (X (f x.b y.b)))
 replace r0:=r0.set_other (b':=w.heap.size+1+1+1) (by omega) 1 (.int .u64 (X (f x.b y.b)))
 replace r1:=r1.set_other (b':=w.heap.size+1+1+1) (by omega) 1 (.int .u64 (X (f x.b y.b)))
 replace r2:=r2.set_other (b':=w.heap.size+1+1+1) (by omega) 1 (.int .u64 (X (f x.b y.b)))
 replace hB:=below_set hB (b:=w.heap.size+1+1+1) 1 (by omega) (.int .u64 (X (f x.b y.b)))
 replace hs':w.heap.size+4≤(Y.setCell ⟨w.heap.size+1+1+1,1,none⟩ (.int .u64 (X (f x.b y.b)))).heap.size:=by simpa using hs'
 clear e3 f3
 generalize (Y.setCell ⟨w.heap.size+1+1+1,1,none⟩ (.int .u64 (X (f x.b y.b))))=W at *
 refine rounds_step (n:=2) ?_
 go_upto_region 5 with (fail)
 have ha:∀X,Below W.heap.size W X→X.cell? ⟨w.heap.size,2,none⟩=some (.int .u64 (Go.Proofs.YtncnfncglacheaaGreatDoor.X x.c)):=fun X h=>by rw [(r0.below h r0.lt).cell?];rfl
 have hb:∀X,Below W.heap.size W X→X.cell? ⟨w.heap.size+1,2,none⟩=some (.int .u64 (Go.Proofs.YtncnfncglacheaaGreatDoor.X y.c)):=fun X h=>by rw [(r1.below h r1.lt).cell?];rfl
 refine region_headsT (S:=fun X=>Below W.heap.size W X) 9 rfl (by kernel_rfl) (Below.refl _ _).drew fun hS=> ?_
 refine tk 0 12 (.int .i64 2) hS ?_
 refine tk 1 13 (.func (.func g) #[] #[]) hS ?_
 refine tk 2 14 (.int .i64 2) hS ?_
 refine tk 3 15 (.pointer (some ⟨w.heap.size,2,none⟩)) hS ?_
 refine tk 4 16 (.int .u64 (X x.c)) hS ?_ rfl (qi fun W' h=>by have q0:=ha W' h;have q1:=hb W' h;go_simp)
 refine tk 5 17 (.int .i64 2) hS ?_
 refine tk 6 18 (.pointer (some ⟨w.heap.size+1,2,none⟩)) hS ?_
 refine tk 7 19 (.int .u64 (X y.c)) hS ?_ rfl (qi fun W' h=>by have q0:=ha W' h;have q1:=hb W' h;go_simp)
 refine rdT 8 (fun K' hK=> ?_)
 refine callD (d:=20) (g:=g) (args:= #[.int .u64 (X x.c), .int .u64 (X y.c)]) rfl rfl (by rcases hg with rfl | rfl | rfl<;>first | kernel_rfl | (simp [execOp,resolve,invoke,Act.eval]) | go_simp) ?_
 refine (hf _ x.c y.c).mono ?_
 rintro e Wa ⟨rfl,rfl⟩
 refine ⟨_,rfl,hK.out _ _ hS fun _=> ?_⟩
 clear hK ha hb
 simp only [sA,sB,sC]
 refine headsT_tail (by kernel_rfl) ?_
 simp only [List.drop]
 replace r0:=r0.drew
 replace r1:=r1.drew
 replace r2:=r2.drew
 replace r3:=r3.drew
 replace hB:=hB.drew
 replace hs':w.heap.size+4≤W.drew.heap.size:=hs'
 clear hS
 generalize W.drew=Y at *
 have e3:Y.cell? ⟨w.heap.size+1+1+1,2,none⟩=some (.int .u64 0):=by rw [r3.cell?];rfl
 have f3:=r3.frozen 2
 go_wp2_with fail
 replace r3:Row oV (Y.setCell ⟨w.heap.size+1+1+1,2,none⟩ (.int .u64 (X (f x.c y.c)))) (w.heap.size+1+1+1) 65 [ow (X (f x.a y.a)),ow (X (f x.b y.b)),ow (X (f x.c y.c)),ow 0]:=r3.set 2 (ow (X (f x.c y.c)))
 replace r0:=r0.set_other (b':=w.heap.size+1+1+1) (by omega) 2 (.int .u64 (X (f x.c y.c)))
 replace r1:=r1.set_other (b':=w.heap.size+1+1+1) (by omega) 2 (.int .u64 (X (f x.c y.c)))
 replace r2:=r2.set_other (b':=w.heap.size+1+1+1) (by omega) 2 (.int .u64 (X (f x.c y.c)))
 replace hB:=below_set hB (b:=w.heap.size+1+1+1) 2 (by omega) (.int .u64 (X (f x.c y.c)))
 replace hs':w.heap.size+4≤(Y.setCell ⟨w.heap.size+1+1+1,2,none⟩ (.int .u64 (X (f x.c y.c)))).heap.size:=by simpa using hs'
 clear e3 f3
 generalize (Y.setCell ⟨w.heap.size+1+1+1,2,none⟩ (.int .u64 (X (f x.c y.c))))=W at *
 refine rounds_step (n:=1) ?_
 go_upto_region 5 with (fail)
 have ha:∀X,Below W.heap.size W X→X.cell? ⟨w.heap.size,3,none⟩=some (.int .u64 (Go.Proofs.YtncnfncglacheaaGreatDoor.X x.d)):=fun X h=>by rw [(r0.below h r0.lt).cell?];rfl
 have hb:∀X,Below W.heap.size W X→X.cell? ⟨w.heap.size+1,3,none⟩=some (.int .u64 (Go.Proofs.YtncnfncglacheaaGreatDoor.X y.d)):=fun X h=>by rw [(r1.below h r1.lt).cell?];rfl
 refine region_headsT (S:=fun X=>Below W.heap.size W X) 9 rfl (by kernel_rfl) (Below.refl _ _).drew fun hS=> ?_
 refine tk 0 12 (.int .i64 3) hS ?_
 refine tk 1 13 (.func (.func g) #[] #[]) hS ?_
 refine tk 2 14 (.int .i64 3) hS ?_
 refine tk 3 15 (.pointer (some ⟨w.heap.size,3,none⟩)) hS ?_
 refine tk 4 16 (.int .u64 (X x.d)) hS ?_ rfl (qi fun W' h=>by have q0:=ha W' h;have q1:=hb W' h;go_simp)
 refine tk 5 17 (.int .i64 3) hS ?_
 refine tk 6 18 (.pointer (some ⟨w.heap.size+1,3,none⟩)) hS ?_
 refine tk 7 19 (.int .u64 (X y.d)) hS ?_ rfl (qi fun W' h=>by have q0:=ha W' h;have q1:=hb W' h;go_simp)
 refine rdT 8 (fun K' hK=> ?_)
 refine callD (d:=20) (g:=g) (args:= #[.int .u64 (X x.d), .int .u64 (X y.d)]) rfl rfl (by rcases hg with rfl | rfl | rfl<;>first | kernel_rfl | (simp [execOp,resolve,invoke,Act.eval]) | go_simp) ?_
 refine (hf _ x.d y.d).mono ?_
 rintro e Wa ⟨rfl,rfl⟩
 refine ⟨_,rfl,hK.out _ _ hS fun _=> ?_⟩
 clear hK ha hb
 simp only [sA,sB,sC]
 refine headsT_tail (by kernel_rfl) ?_
 simp only [List.drop]
 replace r0:=r0.drew
 replace r1:=r1.drew
 replace r2:=r2.drew
 replace r3:=r3.drew
 replace hB:=hB.drew
 replace hs':w.heap.size+4≤W.drew.heap.size:=hs'
 clear hS
 generalize W.drew=Y at *
 have e3:Y.cell? ⟨w.heap.size+1+1+1,3,none⟩=some (.int .u64 0):=by rw [r3.cell?];rfl
 have f3:=r3.frozen 3
 go_wp2_with fail
 replace r3:Row oV (Y.setCell ⟨w.heap.size+1+1+1,3,none⟩ (.int .u64 (X (f x.d y.d)))) (w.heap.size+1+1+1) 65 [ow (X (f x.a y.a)),ow (X (f x.b y.b)),ow (X (f x.c y.c)),ow (X (f x.d y.d))]:=r3.set 3 (ow (X (f x.d y.d)))
 replace r0:=r0.set_other (b':=w.heap.size+1+1+1) (by omega) 3 (.int .u64 (X (f x.d y.d)))
 replace r1:=r1.set_other (b':=w.heap.size+1+1+1) (by omega) 3 (.int .u64 (X (f x.d y.d)))
 replace r2:=r2.set_other (b':=w.heap.size+1+1+1) (by omega) 3 (.int .u64 (X (f x.d y.d)))
 replace hB:=below_set hB (b:=w.heap.size+1+1+1) 3 (by omega) (.int .u64 (X (f x.d y.d)))
 replace hs':w.heap.size+4≤(Y.setCell ⟨w.heap.size+1+1+1,3,none⟩ (.int .u64 (X (f x.d y.d)))).heap.size:=by simpa using hs'
 clear e3 f3
 generalize (Y.setCell ⟨w.heap.size+1+1+1,3,none⟩ (.int .u64 (X (f x.d y.d))))=W at *
 refine rounds_step (n:=0) ?_
 go_wp2_with (first
  | ((with_reducible refine zL (Row.at r3) aggCl rfl (C:=clA (Cl.zip f x y)) ?_))
  | ((with_reducible refine zS (l':=clL (Cl.zip f x y)) r2 aggCl ?_);(intro W6 hs6 hG6 hz6)))
 refine bodyPost_ret (results_agg (f:=oV) (l:=clL (Cl.zip f x y)) rfl _ aggCl (w.heap.size+1+1) 0 rfl hs6.at) rfl ?_
 exact ⟨rfl,hB.grown hG6 hB.size (fun k e=>by cases e;omega)⟩
theorem clInter (w:World) (x y:Cl):Calls Tryz.prog 102 #[.agg (clA x), .agg (clA y)] w fun e w'=>e= .returned (.agg (clA (Cl.zip (fun x y=>x &&& y) x y)))∧Below w.heap.size w w':=by
 go_enter Tryz.func102,Tryz.ntmps102
 go_upto_region 1 with (fail)
 obtain ⟨W,hW,hB,hs,r0,r1,r2⟩:∃W,(((w.alloc (.cells (clA x) 65)).alloc (.cells (clA y) 65)).alloc (.cells zCl 65))=W∧Below w.heap.size w W∧W.heap.size=w.heap.size+3∧W.heap[w.heap.size]?=some (.cells (clA x) 65 (0,0))∧W.heap[w.heap.size+1]?=some (.cells (clA y) 65 (0,0))∧W.heap[w.heap.size+1+1]?=some (.cells zCl 65 (0,0)):=by
  refine ⟨_,rfl,?_,by simp,?_,?_,?_⟩
  ·exact below_al (below_al (below_al (Below.refl _ _) (Nat.le_refl _) _) (Nat.le_refl _) _) (Nat.le_refl _) _
  all_goals repeat (first | (refine heap_new' _ _ _ ?_;(simp;done)) | (refine (Below.heap_alloc _ _ _ ?_).trans ?_;·(simp<;>omega)))
 rw [hW]
 clear hW
 replace r0:Row oV W w.heap.size 65 (clL x):=r0
 replace r1:Row oV W (w.heap.size+1) 65 (clL y):=r1
 replace r2:Row oV W (w.heap.size+1+1) 65 [ow 0,ow 0,ow 0,ow 0]:=r2
 have hs':w.heap.size+3≤W.heap.size:=Nat.le_of_eq hs.symm
 clear hs
 go_wp2_with (first
  | ((with_reducible refine zL r0.at aggCl rfl (C:=clA x) ?_))
  | ((with_reducible refine zL r1.at aggCl rfl (C:=clA y) ?_)))
 refine (clCombineG _ (by decide) (fun x y=>x &&& y) and64 W x y).mono ?_
 rintro e W2 ⟨rfl,hB2⟩
 replace r2:=r2.below hB2 r2.lt
 replace hB:=hB.trans (hB2.mono hB.size)
 go_wp2_with (first
  | ((with_reducible refine zS (l':=clL (Cl.zip (fun x y=>x &&& y) x y)) r2 aggCl ?_);(intro W6 hs6 hG6 hz6)))
 refine bodyPost_ret (results_agg (f:=oV) (l:=clL (Cl.zip (fun x y=>x &&& y) x y)) rfl _ aggCl (w.heap.size+1+1) 0 rfl hs6.at) rfl ?_
 exact ⟨rfl,hB.grown hG6 hB.size (fun k e=>by cases e;omega)⟩
theorem clMinus (w:World) (x y:Cl):Calls Tryz.prog 224 #[.agg (clA x), .agg (clA y)] w fun e w'=>e= .returned (.agg (clA (Cl.zip (fun x y=>x &&& ~~~y) x y)))∧Below w.heap.size w w':=by
 go_enter Tryz.func224,Tryz.ntmps224
 go_upto_region 1 with (fail)
 obtain ⟨W,hW,hB,hs,r0,r1,r2⟩:∃W,(((w.alloc (.cells (clA x) 65)).alloc (.cells (clA y) 65)).alloc (.cells zCl 65))=W∧Below w.heap.size w W∧W.heap.size=w.heap.size+3∧W.heap[w.heap.size]?=some (.cells (clA x) 65 (0,0))∧W.heap[w.heap.size+1]?=some (.cells (clA y) 65 (0,0))∧W.heap[w.heap.size+1+1]?=some (.cells zCl 65 (0,0)):=by
  refine ⟨_,rfl,?_,by simp,?_,?_,?_⟩
  ·exact below_al (below_al (below_al (Below.refl _ _) (Nat.le_refl _) _) (Nat.le_refl _) _) (Nat.le_refl _) _
  all_goals repeat (first | (refine heap_new' _ _ _ ?_;(simp;done)) | (refine (Below.heap_alloc _ _ _ ?_).trans ?_;·(simp<;>omega)))
 rw [hW]
 clear hW
 replace r0:Row oV W w.heap.size 65 (clL x):=r0
 replace r1:Row oV W (w.heap.size+1) 65 (clL y):=r1
 replace r2:Row oV W (w.heap.size+1+1) 65 [ow 0,ow 0,ow 0,ow 0]:=r2
 have hs':w.heap.size+3≤W.heap.size:=Nat.le_of_eq hs.symm
 clear hs
 go_wp2_with (first
  | ((with_reducible refine zL r0.at aggCl rfl (C:=clA x) ?_))
  | ((with_reducible refine zL r1.at aggCl rfl (C:=clA y) ?_)))
 refine (clCombineG _ (by decide) (fun x y=>x &&& ~~~y) andnot64 W x y).mono ?_
 rintro e W2 ⟨rfl,hB2⟩
 replace r2:=r2.below hB2 r2.lt
 replace hB:=hB.trans (hB2.mono hB.size)
 go_wp2_with (first
  | ((with_reducible refine zS (l':=clL (Cl.zip (fun x y=>x &&& ~~~y) x y)) r2 aggCl ?_);(intro W6 hs6 hG6 hz6)))
 refine bodyPost_ret (results_agg (f:=oV) (l:=clL (Cl.zip (fun x y=>x &&& ~~~y) x y)) rfl _ aggCl (w.heap.size+1+1) 0 rfl hs6.at) rfl ?_
 exact ⟨rfl,hB.grown hG6 hB.size (fun k e=>by cases e;omega)⟩
theorem clNot (w:World) (x:Cl):Calls Tryz.prog 105 #[.agg (clA x)] w fun e w'=>e= .returned (.agg (clA (Cl.zip (fun x _=> ~~~x) x x)))∧Below w.heap.size w w':=by
 go_enter Tryz.func105,Tryz.ntmps105
 go_upto_region 1 with (fail)
 obtain ⟨W,hW,hB,hs,r0,r2⟩:∃W,((w.alloc (.cells (clA x) 65)).alloc (.cells zCl 65))=W∧Below w.heap.size w W∧W.heap.size=w.heap.size+2∧W.heap[w.heap.size]?=some (.cells (clA x) 65 (0,0))∧W.heap[w.heap.size+1]?=some (.cells zCl 65 (0,0)):=by
  refine ⟨_,rfl,?_,by simp,?_,?_⟩
  ·exact below_al (below_al (Below.refl _ _) (Nat.le_refl _) _) (Nat.le_refl _) _
  all_goals repeat (first | (refine heap_new' _ _ _ ?_;(simp;done)) | (refine (Below.heap_alloc _ _ _ ?_).trans ?_;·(simp<;>omega)))
 rw [hW]
 clear hW
 replace r0:Row oV W w.heap.size 65 (clL x):=r0
 replace r2:Row oV W (w.heap.size+1) 65 [ow 0,ow 0,ow 0,ow 0]:=r2
 have hs':w.heap.size+2≤W.heap.size:=Nat.le_of_eq hs.symm
 clear hs
 go_wp2_with ((with_reducible refine zL r0.at aggCl rfl (C:=clA x) ?_))
 refine (clCombineG _ (by decide) (fun x _=> ~~~x) not64 W x x).mono ?_
 rintro e W2 ⟨rfl,hB2⟩
 replace r2:=r2.below hB2 r2.lt
 replace hB:=hB.trans (hB2.mono hB.size)
 go_wp2_with ((with_reducible refine zS (l':=clL (Cl.zip (fun x _=> ~~~x) x x)) r2 aggCl ?_);(intro W6 hs6 hG6 hz6))
 refine bodyPost_ret (results_agg (f:=oV) (l:=clL (Cl.zip (fun x _=> ~~~x) x x)) rfl _ aggCl (w.heap.size+1) 0 rfl hs6.at) rfl ?_
 exact ⟨rfl,hB.grown hG6 hB.size (fun k e=>by cases e;omega)⟩
theorem inter_zip (x y:Cl):Cl.zip (fun x y=>x &&& y) x y=x.inter y:=rfl
def Cl.non (x:Cl):Cl:=⟨~~~x.a,~~~x.b,~~~x.c,~~~x.d⟩
end Go.Proofs.YtncnfncglacheaaGreatDoor
namespace Go.Proofs.YtncnfncglacheaaGreatDoor
open Go.RowKit Mem
set_option maxRecDepth 100000
end Go.Proofs.YtncnfncglacheaaGreatDoor
namespace Go.Proofs.YtncnfncglacheaaGreatDoor
open Go.RowKit Mem
set_option maxRecDepth 100000
end Go.Proofs.YtncnfncglacheaaGreatDoor
namespace Go.Proofs.YtncnfncglacheaaGreatDoor
open Go.RowKit Mem
set_option maxRecDepth 100000
theorem Mem.results_agg2 {α:Type} {f:α→Value} {w:World} {l:List α} {P:Program} {fn:Func} {p t:Tmp} {ty:TypeId} (h:fn.results= #[.cell p ty, .tmp t]) (tmps:Array Value) (T:AggT P ty l.length) (b off:Nat) (hp:tmps.getD p undef= .pointer (some ⟨b,off,none⟩)) (hat:At f w b off l):
  (results fn tmps).run P w= .ok (.tuple #[.agg (l.map f).toArray,tmps.getD t undef]) w:=by
 have hp':tmps[p]?.getD undef= .pointer (some ⟨b,off,none⟩):=by simpa using hp
 simp [results,h,hp',asAddr,run_load_agg T hat]
end Go.Proofs.YtncnfncglacheaaGreatDoor
namespace Go.Proofs.YtncnfncglacheaaGreatDoor
open Go.RowKit Mem
set_option maxRecDepth 100000
end Go.Proofs.YtncnfncglacheaaGreatDoor
namespace Go.Proofs.YtncnfncglacheaaGreatDoor
open Go.RowKit Mem
set_option maxRecDepth 100000
end Go.Proofs.YtncnfncglacheaaGreatDoor
namespace Go.Proofs.YtncnfncglacheaaGreatDoor
open Go.RowKit Mem
set_option maxRecDepth 100000
end Go.Proofs.YtncnfncglacheaaGreatDoor
namespace Go.Proofs.YtncnfncglacheaaGreatDoor
open Go.RowKit Mem
set_option maxRecDepth 100000
end Go.Proofs.YtncnfncglacheaaGreatDoor
namespace Go.Proofs.YtncnfncglacheaaGreatDoor
open Go Go.RowKit Mem
set_option maxRecDepth 100000
structure DF where
 cls:List Cl
 nx:List (List Nat)
 ac:List Bool
structure TB where
 cell:List Nat
 cells:Nat
 nx:List (List Nat)
 ac:List Bool
theorem foldl_take_succ {α β:Type} (f:β→α→β) (a:β) (l:List α) (k:Nat) (h:k<l.length):(l.take (k+1)).foldl f a=f ((l.take k).foldl f a) l[k]:=by
 rw [List.take_succ_eq_append_getElem h,List.foldl_append];rfl
theorem nodup_sub:∀(l m:List Nat),l.Nodup→(∀x∈l,x∈m)→l.length≤m.length
 | [],_,_,_=>Nat.zero_le _
 | a::l,m,hn,hs=>by
  obtain ⟨h1,h2⟩:=List.nodup_cons.1 hn
  have ha:a∈m:=hs a (by simp)
  have:=nodup_sub l (m.erase a) h2 fun x hx=>(List.mem_erase_of_ne (fun e:x=a=>h1 (by rw [← e];exact hx))).2 (hs x (by simp [hx]))
  rw [List.length_erase_of_mem ha] at this
  have:=List.length_pos_of_mem ha
  simp only [List.length_cons]
  omega
theorem nodup_len (n:Nat) (l:List Nat) (hn:l.Nodup) (hb:∀x∈l,x<n):l.length≤n:=by
 have:=nodup_sub l (List.range n) hn fun x hx=>List.mem_range.2 (hb x hx)
 rwa [List.length_range] at this
theorem getD_mem {α:Type} (l:List α) (i:Nat) (d:α) (h:i<l.length):l.getD i d∈l:=by
 rw [List.getD_eq_getElem?_getD,List.getElem?_eq_getElem h];exact List.getElem_mem h
def memL (c:Cl):List Nat:=(List.range 256).filter c.mem
def setAll (i:Nat) (bs cell:List Nat):List Nat:=bs.foldl (fun s b=>s.set b i) cell
def cellK (cls:List Cl):Nat→List Nat
 | 0=>List.replicate 256 0
 | k+1=>setAll k (memL (cls.getD k zeroC)) (cellK cls k)
def tabOf (D:DF):TB:=⟨cellK D.cls D.cls.length,D.cls.length,D.nx,D.ac⟩
structure DF.Ok (D:DF):Prop where
 c1:1≤D.cls.length
 c256:D.cls.length≤256
 n1:1≤D.nx.length
 nn:D.nx.length≤65535
 ac:D.ac.length=D.nx.length
 rw:∀r∈D.nx,r.length=D.cls.length
 rb:∀r∈D.nx,∀t∈r,t<D.nx.length
structure TB.Ok (T:TB):Prop where
 cl:T.cell.length=256
 c256:T.cells≤256
 cb:∀x∈T.cell,x<T.cells
 n1:1≤T.nx.length
 nn:T.nx.length≤65535
 ac:T.ac.length=T.nx.length
 rw:∀r∈T.nx,r.length=T.cells
 rb:∀r∈T.nx,∀t∈r,t<T.nx.length
theorem memL_lt (c:Cl):∀b∈memL c,b<256:=fun b hb=>List.mem_range.1 (List.mem_filter.1 hb).1
theorem setAll_length (i:Nat):∀(bs cell:List Nat),(setAll i bs cell).length=cell.length
 | [],_=>rfl
 | b::bs,cell=>by
  show (setAll i bs (cell.set b i)).length=_
  rw [setAll_length i bs,List.length_set]
theorem setAll_bound (i n:Nat) (hi:i<n):∀(bs cell:List Nat),(∀x∈cell,x<n)→∀x∈setAll i bs cell,x<n
 | [],_,h=>h
 | b::bs,cell,h=>by
  refine setAll_bound i n hi bs (cell.set b i) fun x hx=> ?_
  rcases List.mem_or_eq_of_mem_set hx with h' | rfl
  ·exact h x h'
  ·exact hi
theorem cellK_length (cls:List Cl):∀k,(cellK cls k).length=256
 | 0=>by simp [cellK]
 | k+1=>by rw [cellK,setAll_length,cellK_length cls k]
theorem cellK_bound (cls:List Cl) (n:Nat) (h1:1≤n):∀k,k≤n→∀x∈cellK cls k,x<n
 | 0,_=>fun x hx=>by rw [(List.mem_replicate.1 hx).2];omega
 | k+1,h=>setAll_bound k n (by omega) _ _ (cellK_bound cls n h1 k (by omega))
theorem tabOf_ok {D:DF} (h:D.Ok):(tabOf D).Ok:=
 ⟨cellK_length _ _,h.c256,cellK_bound _ _ h.c1 _ (Nat.le_refl _),h.n1,h.nn,h.ac,h.rw,h.rb⟩
def addN (l:List Nat) (t:Nat):List Nat:=if t∈l then l else l++[t]
def rowIn (l row:List Nat):List Nat:=row.foldl addN l
def reachF (nx:List (List Nat)):Nat→Nat→List Nat→List Nat
 | 0,_,l=>l
 | f+1,i,l=>if i<l.length then reachF nx f (i+1) (rowIn l (nx.getD (l.getD i 0) [])) else l
def TB.reach (T:TB):List Nat:=reachF T.nx T.nx.length 0 [0]
structure LOk (n:Nat) (l:List Nat):Prop where
 nd:l.Nodup
 lt:∀x∈l,x<n
 ne:1≤l.length
theorem LOk.len {n:Nat} {l:List Nat} (h:LOk n l):l.length≤n:=nodup_len n l h.nd h.lt
theorem LOk.add {n:Nat} {l:List Nat} (h:LOk n l) {t:Nat} (ht:t<n):LOk n (addN l t):=by
 unfold addN
 split
 ·exact h
 ·rename_i hm
  refine ⟨List.nodup_append.2 ⟨h.nd,by simp,fun a ha b hb e=>hm (by rw [← List.mem_singleton.1 hb,← e];exact ha)⟩,fun x hx=> ?_,by simp⟩
  rcases List.mem_append.1 hx with h' | h'
  ·exact h.lt x h'
  ·rw [List.mem_singleton.1 h'];exact ht
theorem LOk.rowIn {n:Nat}:∀(row:List Nat) {l:List Nat},LOk n l→(∀t∈row,t<n)→LOk n (rowIn l row)
 | [],_,h,_=>h
 | t::row,l,h,hr=>LOk.rowIn row (h.add (hr t (by simp))) fun t ht=>hr t (by simp [ht])
theorem rowIn_ge (row:List Nat):∀l:List Nat,l.length≤(Go.Proofs.YtncnfncglacheaaGreatDoor.rowIn l row).length:=by
 induction row with
 | nil=>intro l;exact Nat.le_refl _
 | cons t row ih=>
  intro l
  refine Nat.le_trans ?_ (ih (addN l t))
  unfold addN
  split<;>simp
theorem LOk.one {n:Nat} (h:1≤n):LOk n [0]:=⟨by simp,by simp;omega,by simp⟩
theorem row_lt {nx:List (List Nat)} {n:Nat} (hr:∀r∈nx,∀t∈r,t<n) (i:Nat):∀t∈nx.getD i [],t<n:=by
 by_cases h:i<nx.length
 ·exact hr _ (getD_mem nx i [] h)
 ·rw [List.getD_eq_getElem?_getD,List.getElem?_eq_none (by omega)];simp
theorem reachF_ok {nx:List (List Nat)} {n:Nat} (hr:∀r∈nx,∀t∈r,t<n):∀(f i:Nat) (l:List Nat),LOk n l→LOk n (reachF nx f i l)
 | 0,_,_,h=>h
 | f+1,i,l,h=>by
  unfold reachF
  split
  ·exact reachF_ok hr f _ _ (LOk.rowIn _ h (row_lt hr _))
  ·exact h
theorem TB.Ok.reach {T:TB} (h:T.Ok):LOk T.nx.length T.reach:=reachF_ok h.rb _ _ _ (.one h.n1)
theorem reachF_end (nx:List (List Nat)) (f i:Nat) (l:List Nat) (h:l.length≤i):reachF nx f i l=l:=by
 cases f with
 | zero=>rfl
 | succ f=>rw [reachF,if_neg (by omega)]
theorem reachF_step (nx:List (List Nat)) (n i:Nat) (l:List Nat) (h:i<l.length) (hn:l.length≤n):reachF nx (n - i) i l=reachF nx (n - (i+1)) (i+1) (rowIn l (nx.getD (l.getD i 0) [])):=by
 rw [show n - i=(n - (i+1))+1 by omega,reachF,if_pos h]
def rowKey (nx:List (List Nat)) (bl:List Nat) (s:Nat):List Nat:=bl.getD s 0::(nx.getD s []).map fun t=>bl.getD t 0
structure RS where
 ks:List (List Nat)
 rs:List Nat
 nxt:List Nat
def rstep (nx:List (List Nat)) (bl:List Nat) (st:RS) (s:Nat):RS:=
 if rowKey nx bl s∈st.ks then {st with nxt:=st.nxt.set s (st.ks.idxOf (rowKey nx bl s))} else ⟨st.ks++[rowKey nx bl s],st.rs++[s],st.nxt.set s st.ks.length⟩
def rs0 (n:Nat):RS:=⟨[],[],List.replicate n 0⟩
def rnd (nx:List (List Nat)) (bl:List Nat) (n:Nat) (l:List Nat):RS:=l.foldl (rstep nx bl) (rs0 n)
def refF (nx:List (List Nat)) (n:Nat) (l:List Nat):Nat→List Nat→Nat→List Nat×List Nat
 | 0,bl,_=>(bl,[])
 | f+1,bl,c=>if (rnd nx bl n l).rs.length=c then ((rnd nx bl n l).nxt,(rnd nx bl n l).rs) else refF nx n l f (rnd nx bl n l).nxt (rnd nx bl n l).rs.length
def bstep (ac:List Bool) (b:List Nat) (s:Nat):List Nat:=if ac.getD s false=true then b.set s 1 else b
def bl0 (ac:List Bool) (n:Nat) (l:List Nat):List Nat:=l.foldl (bstep ac) (List.replicate n 0)
def TB.refine (T:TB) (l:List Nat):List Nat×List Nat:=refF T.nx T.nx.length l (l.length+1) (bl0 T.ac T.nx.length l) 0
structure RS.Ok (nx:List (List Nat)) (bl:List Nat) (n:Nat) (l:List Nat) (st:RS):Prop where
 len:st.rs.length=st.ks.length
 le:st.rs.length≤l.length
 nl:st.nxt.length=n
 nb:∀x∈st.nxt,x<max st.ks.length 1
 mem:∀x∈st.rs,x∈l
 has:∀s∈l,rowKey nx bl s∈st.ks
 hit:∀i,i<st.rs.length→∃s∈l,st.nxt.getD s 0=i
theorem rs0_ok (nx:List (List Nat)) (bl:List Nat) (n:Nat):(rs0 n).Ok nx bl n []:=
 ⟨rfl,Nat.le_refl _,by simp [rs0],fun x hx=>by rw [(List.mem_replicate.1 hx).2];show 0<max 0 1;omega,by simp [rs0],by simp,fun i hi=>by simp [rs0] at hi⟩
theorem getD_set {α:Type} (l:List α) (i j:Nat) (x d:α) (hi:i<l.length):(l.set i x).getD j d=if i=j then x else l.getD j d:=by
 rw [List.getD_eq_getElem?_getD,List.getElem?_set]
 by_cases h:i=j
 ·subst h;rw [if_pos rfl,if_pos hi,if_pos rfl];rfl
 ·rw [if_neg h,if_neg h,List.getD_eq_getElem?_getD]
theorem rstep_ok {nx:List (List Nat)} {bl:List Nat} {n:Nat} {l:List Nat} {st:RS} (h:st.Ok nx bl n l) {s:Nat} (hs:s<n) (hsl:s∉l):(rstep nx bl st s).Ok nx bl n (l++[s]):=by
 have hsn:s<st.nxt.length:=by rw [h.nl];exact hs
 unfold rstep
 split
 ·rename_i hm
  have hid:=List.idxOf_lt_length_of_mem hm
  refine ⟨h.len,by rw [List.length_append];have:=h.le;show st.rs.length≤_;omega,by rw [List.length_set];exact h.nl,fun x hx=> ?_,fun x hx=>List.mem_append_left _ (h.mem x hx),fun x hx=> ?_,fun i hi=> ?_⟩
  ·rcases List.mem_or_eq_of_mem_set hx with h' | rfl
   ·exact h.nb x h'
   ·show _<max st.ks.length 1;omega
  ·rcases List.mem_append.1 hx with h' | h'
   ·exact h.has x h'
   ·rw [List.mem_singleton.1 h'];exact hm
  ·obtain ⟨t,ht,e⟩:=h.hit i hi
   exact ⟨t,List.mem_append_left _ ht,by rw [getD_set _ _ _ _ _ hsn,if_neg (fun e':s=t=>hsl (by rw [e'];exact ht))];exact e⟩
 ·rename_i hm
  refine ⟨by simp [h.len],by simp only [List.length_append,List.length_singleton];have:=h.le;omega,by rw [List.length_set];exact h.nl,fun x hx=> ?_,fun x hx=> ?_,fun x hx=> ?_,fun i hi=> ?_⟩
  ·simp only [List.length_append,List.length_singleton]
   rcases List.mem_or_eq_of_mem_set hx with h' | rfl
   ·have:=h.nb x h';omega
   ·omega
  ·rcases List.mem_append.1 hx with h' | h'
   ·exact List.mem_append_left _ (h.mem x h')
   ·rw [List.mem_singleton.1 h'];simp
  ·rcases List.mem_append.1 hx with h' | h'
   ·exact List.mem_append_left _ (h.has x h')
   ·rw [List.mem_singleton.1 h'];simp
  ·simp only [List.length_append,List.length_singleton] at hi
   by_cases hi':i<st.rs.length
   ·obtain ⟨t,ht,e⟩:=h.hit i hi'
    exact ⟨t,List.mem_append_left _ ht,by rw [getD_set _ _ _ _ _ hsn,if_neg (fun e':s=t=>hsl (by rw [e'];exact ht))];exact e⟩
   ·exact ⟨s,by simp,by rw [getD_set _ _ _ _ _ hsn,if_pos rfl];have:=h.len;omega⟩
theorem rnd_take_ok {nx:List (List Nat)} {bl:List Nat} {n:Nat} {l:List Nat} (hl:LOk n l):∀k,k≤l.length→((l.take k).foldl (rstep nx bl) (rs0 n)).Ok nx bl n (l.take k)
 | 0,_=>rs0_ok nx bl n
 | k+1,hk=>by
  have hk':k<l.length:=hk
  rw [foldl_take_succ _ _ _ _ hk',List.take_succ_eq_append_getElem hk']
  refine rstep_ok (rnd_take_ok hl k (by omega)) (hl.lt _ (List.getElem_mem hk')) fun hm=> ?_
  obtain ⟨j,hj,e⟩:=List.mem_take_iff_getElem.1 hm
  have:=(List.getElem_inj (xs:=l) hl.nd).1 e
  omega
theorem rnd_ok {nx:List (List Nat)} {bl:List Nat} {n:Nat} {l:List Nat} (hl:LOk n l):(rnd nx bl n l).Ok nx bl n l:=by
 have:=rnd_take_ok (nx:=nx) (bl:=bl) hl l.length (Nat.le_refl _)
 rw [List.take_length] at this
 exact this
theorem rnd_grows {nx:List (List Nat)} {bl:List Nat} {n c:Nat} {l:List Nat} (hl:LOk n l) (hc:∀i,i<c→∃s∈l,bl.getD s 0=i):c≤(rnd nx bl n l).rs.length:=by
 have h:=rnd_ok (nx:=nx) (bl:=bl) hl
 rw [h.len]
 have:=nodup_sub (List.range c) ((rnd nx bl n l).ks.map fun k=>k.headD 0) List.nodup_range fun i hi=>by
  obtain ⟨s,hs,e⟩:=hc i (List.mem_range.1 hi)
  exact List.mem_map.2 ⟨_,h.has s hs,by rw [← e];rfl⟩
 rwa [List.length_range,List.length_map] at this
theorem bl0_take (ac:List Bool) (n:Nat) (l:List Nat):∀k,k≤l.length→((l.take k).foldl (bstep ac) (List.replicate n 0)).length=n∧∀x∈(l.take k).foldl (bstep ac) (List.replicate n 0),x≤1
 | 0,_=>⟨by simp,fun x hx=>by rw [(List.mem_replicate.1 hx).2];omega⟩
 | k+1,hk=>by
  rw [foldl_take_succ _ _ _ _ hk]
  obtain ⟨h1,h2⟩:=bl0_take ac n l k (by omega)
  unfold bstep
  split
  ·refine ⟨by rw [List.length_set];exact h1,fun x hx=> ?_⟩
   rcases List.mem_or_eq_of_mem_set hx with h' | rfl
   ·exact h2 x h'
   ·omega
  ·exact ⟨h1,h2⟩
structure BOk (n:Nat) (l:List Nat) (p:List Nat×List Nat):Prop where
 bl:p.1.length=n
 bb:∀x∈p.1,x<p.2.length
 rm:∀x∈p.2,x∈l
 r1:1≤p.2.length
 rl:p.2.length≤l.length
theorem rnd_bok {nx:List (List Nat)} {bl:List Nat} {n:Nat} {l:List Nat} (hl:LOk n l):BOk n l ((rnd nx bl n l).nxt,(rnd nx bl n l).rs):=by
 have h:=rnd_ok (nx:=nx) (bl:=bl) hl
 have h1:1≤(rnd nx bl n l).ks.length:=by
  have:=h.has _ (getD_mem l 0 0 hl.ne)
  exact List.length_pos_of_mem this
 refine ⟨h.nl,fun x hx=> ?_,h.mem,?_,h.le⟩
 ·have:=h.nb x hx;rw [Nat.max_eq_left h1] at this;simp only [h.len];exact this
 ·simp only [h.len];exact h1
theorem refF_ok {nx:List (List Nat)} {n:Nat} {l:List Nat} (hl:LOk n l):∀(f:Nat) (bl:List Nat) (c:Nat),l.length<f+c→(∀i,i<c→∃s∈l,bl.getD s 0=i)→BOk n l (refF nx n l f bl c)
 | 0,bl,c,hf,hc=>by
  have:=rnd_grows (nx:=nx) hl hc
  have:=(rnd_ok (nx:=nx) (bl:=bl) hl).le
  omega
 | f+1,bl,c,hf,hc=>by
  have hg:=rnd_grows (nx:=nx) hl hc
  unfold refF
  split
  ·exact rnd_bok hl
  ·exact refF_ok hl f _ _ (by omega) (rnd_ok (nx:=nx) (bl:=bl) hl).hit
theorem TB.refine_ok (T:TB) {l:List Nat} (hl:LOk T.nx.length l):BOk T.nx.length l (T.refine l):=refF_ok hl _ _ _ (by omega) fun i hi=>by omega
theorem refF_step {nx:List (List Nat)} {n:Nat} {l:List Nat} (m c:Nat) (bl:List Nat) (hc:c<m):refF nx n l (m - c) bl c=if (rnd nx bl n l).rs.length=c then ((rnd nx bl n l).nxt,(rnd nx bl n l).rs) else refF nx n l (m - c - 1) (rnd nx bl n l).nxt (rnd nx bl n l).rs.length:=by
 rw [show m - c=(m - c - 1)+1 by omega,refF]
 rfl
theorem refF_fuel {nx:List (List Nat)} {n:Nat} {l:List Nat} (hl:LOk n l):∀(f g:Nat) (bl:List Nat) (c:Nat),l.length<f+c→l.length<g+c→(∀i,i<c→∃s∈l,bl.getD s 0=i)→refF nx n l f bl c=refF nx n l g bl c
 | 0,g,bl,c,hf,_,hc=>by
  have:=rnd_grows (nx:=nx) hl hc
  have:=(rnd_ok (nx:=nx) (bl:=bl) hl).le
  omega
 | f+1,0,bl,c,_,hg,hc=>by
  have:=rnd_grows (nx:=nx) hl hc
  have:=(rnd_ok (nx:=nx) (bl:=bl) hl).le
  omega
 | f+1,g+1,bl,c,hf,hg,hc=>by
  have hgr:=rnd_grows (nx:=nx) hl hc
  unfold refF
  split
  ·rfl
  ·exact refF_fuel hl f g _ _ (by omega) (by omega) (rnd_ok (nx:=nx) (bl:=bl) hl).hit
end Go.Proofs.YtncnfncglacheaaGreatDoor
namespace Go.Proofs.YtncnfncglacheaaGreatDoor
open Go Go.RowKit Mem
set_option maxRecDepth 100000
structure MS where
 ks:List (List Nat)
 cells:List Nat
 cls:List Cl
 of:List Int
def toOf (nx:List (List Nat)) (block:List Nat) (s c:Nat):Nat:=block.getD ((nx.getD s []).getD c 0) 0
def colKey (nx:List (List Nat)) (block reps:List Nat) (c:Nat):List Nat:=reps.map fun s=>toOf nx block s c
def mfind (nx:List (List Nat)) (block reps:List Nat) (st:MS) (c:Nat):MS:=
 if st.of.getD c 0<0 then
  (if colKey nx block reps c∈st.ks then {st with of:=st.of.set c (st.ks.idxOf (colKey nx block reps c):Nat)}
   else ⟨st.ks++[colKey nx block reps c],st.cells++[c],st.cls++[zeroC],st.of.set c (st.ks.length:Nat)⟩)
 else st
def mjoin (st:MS) (c b:Nat):MS:={st with cls:=st.cls.set (st.of.getD c 0).toNat ((st.cls.getD (st.of.getD c 0).toNat zeroC).union (zeroC.add b))}
def ms0 (n:Nat):MS:=⟨[],[],[],List.replicate n (-1)⟩
def mergeK (T:TB) (block reps:List Nat):Nat→MS
 | 0=>ms0 T.cells
 | b+1=>mjoin (mfind T.nx block reps (mergeK T block reps b) (T.cell.getD b 0)) (T.cell.getD b 0) b
structure MS.Ok (n k:Nat) (st:MS):Prop where
 cl:st.cells.length=st.ks.length
 cc:st.cls.length=st.ks.length
 ol:st.of.length=n
 ob:∀x∈st.of,x<st.ks.length
 cb:∀x∈st.cells,x<n
 le:st.ks.length≤k
theorem ms0_ok (n:Nat):(ms0 n).Ok n 0:=⟨rfl,rfl,by simp [ms0],fun x hx=>by rw [(List.mem_replicate.1 hx).2];show (-1:Int)<0;omega,by simp [ms0],Nat.le_refl _⟩
theorem mfind_ok {n k:Nat} {st:MS} (h:st.Ok n k) (nx:List (List Nat)) (block reps:List Nat) {c:Nat} (hc:c<n):(mfind nx block reps st c).Ok n (k+1)∧0≤(mfind nx block reps st c).of.getD c 0:=by
 have hco:c<st.of.length:=by rw [h.ol];exact hc
 unfold mfind
 split
 ·split
  ·rename_i _ hm
   have hid:=List.idxOf_lt_length_of_mem hm
   refine ⟨⟨h.cl,h.cc,by rw [List.length_set];exact h.ol,fun x hx=> ?_,h.cb,by have:=h.le;show st.ks.length≤_;omega⟩,?_⟩
   ·rcases List.mem_or_eq_of_mem_set hx with h' | rfl
    ·exact h.ob x h'
    ·show _<(st.ks.length:Int);omega
   ·show 0≤(st.of.set c _).getD c 0
    rw [getD_set _ _ _ _ _ hco,if_pos rfl];omega
  ·refine ⟨⟨by simp [h.cl],by simp [h.cc],by rw [List.length_set];exact h.ol,fun x hx=> ?_,fun x hx=> ?_,?_⟩,?_⟩
   ·simp only [List.length_append,List.length_singleton]
    rcases List.mem_or_eq_of_mem_set hx with h' | rfl
    ·have:=h.ob x h';omega
    ·omega
   ·rcases List.mem_append.1 hx with h' | h'
    ·exact h.cb x h'
    ·rw [List.mem_singleton.1 h'];exact hc
   ·simp only [List.length_append,List.length_singleton];have:=h.le;omega
   ·show 0≤(st.of.set c _).getD c 0
    rw [getD_set _ _ _ _ _ hco,if_pos rfl];omega
 ·rename_i hn
  exact ⟨⟨h.cl,h.cc,h.ol,h.ob,h.cb,by have:=h.le;omega⟩,by omega⟩
theorem mjoin_ok {n k:Nat} {st:MS} (h:st.Ok n k) (c b:Nat):(mjoin st c b).Ok n k:=⟨h.cl,by show (st.cls.set _ _).length=_;rw [List.length_set];exact h.cc,h.ol,h.ob,h.cb,h.le⟩
theorem cell_lt {T:TB} (h:T.Ok) (b:Nat) (hb:b<256):T.cell.getD b 0<T.cells:=h.cb _ (getD_mem _ _ _ (by rw [h.cl];exact hb))
theorem mergeK_ok {T:TB} (h:T.Ok) (block reps:List Nat):∀k,k≤256→(mergeK T block reps k).Ok T.cells k
 | 0,_=>ms0_ok _
 | k+1,hk=>mjoin_ok (mfind_ok (mergeK_ok h block reps k (by omega)) _ _ _ (cell_lt h k (by omega))).1 _ _
theorem mergeK_ne {T:TB} (h:T.Ok) (block reps:List Nat):∀k,k<256→1≤(mergeK T block reps (k+1)).ks.length
 | k,hk=>by
  have ⟨h1,h2⟩:=mfind_ok (mergeK_ok h block reps k (by omega)) T.nx block reps (cell_lt h k hk)
  have:=h1.ob _ (getD_mem _ _ 0 (by rw [h1.ol];exact cell_lt h k hk))
  show 1≤(mfind _ _ _ _ _).ks.length
  omega
structure CS where
 ord:List Nat
 place:List Int
 row:List Nat
def cput (st:CS) (t:Nat):CS:=
 if st.place.getD t 0<0 then ⟨st.ord++[t],st.place.set t (st.ord.length:Nat),st.row++[st.ord.length]⟩ else {st with row:=st.row++[(st.place.getD t 0).toNat]}
def crow (nx:List (List Nat)) (block:List Nat) (s:Nat) (cells:List Nat) (st:CS):CS:=cells.foldl (fun st c=>cput st (toOf nx block s c)) {st with row:=[]}
structure CA where
 st:CS
 nx:List (List Nat)
 ac:List Bool
def cstep (T:TB) (block reps cells:List Nat) (a:CA) (i:Nat):CA:=
 let s:=reps.getD (a.st.ord.getD i 0) 0
 let st':=crow T.nx block s cells a.st
 ⟨st',a.nx++[st'.row],a.ac++[T.ac.getD s false]⟩
def canF (T:TB) (block reps cells:List Nat):Nat→Nat→CA→CA
 | 0,_,a=>a
 | f+1,i,a=>if i<a.st.ord.length then canF T block reps cells f (i+1) (cstep T block reps cells a i) else a
def ca0 (block reps:List Nat):CA:=⟨⟨[block.getD 0 0],(List.replicate reps.length (-1)).set (block.getD 0 0) 0,[]⟩,[],[]⟩
def canM (T:TB) (p:List Nat×List Nat) (m:MS):DF:=
 let a:=canF T p.1 p.2 m.cells p.2.length 0 (ca0 p.1 p.2)
 ⟨m.cls,a.nx,a.ac⟩
def TB.merge (T:TB) (p:List Nat×List Nat):MS:=mergeK T p.1 p.2 256
def TB.canon (T:TB):DF:=canM T (T.refine T.reach) (T.merge (T.refine T.reach))
structure CS.Ok (n:Nat) (st:CS):Prop where
 o:LOk n st.ord
 pl:st.place.length=n
 pb:∀t,t<n→st.place.getD t 0<st.ord.length
 pm:∀t,t<n→(st.place.getD t 0<0→t∉st.ord)
 rb:∀x∈st.row,x<st.ord.length
theorem cput_ok {n:Nat} {st:CS} (h:st.Ok n) {t:Nat} (ht:t<n):(cput st t).Ok n:=by
 have htp:t<st.place.length:=by rw [h.pl];exact ht
 unfold cput
 split
 ·rename_i hn
  have hm:=h.pm t ht hn
  have ho:LOk n (st.ord++[t]):=by
   have:=h.o.add ht
   rwa [addN,if_neg hm] at this
  refine ⟨ho,by rw [List.length_set];exact h.pl,fun u hu=> ?_,fun u hu hlt=> ?_,fun x hx=> ?_⟩
  ·rw [getD_set _ _ _ _ _ htp,List.length_append]
   split
   ·simp only [List.length_singleton];omega
   ·have:=h.pb u hu;simp only [List.length_singleton];omega
  ·rw [getD_set _ _ _ _ _ htp] at hlt
   split at hlt
   ·omega
   ·rename_i hne
    intro hmem
    rcases List.mem_append.1 hmem with h' | h'
    ·exact h.pm u hu hlt h'
    ·exact hne (List.mem_singleton.1 h').symm
  ·simp only [List.length_append,List.length_singleton]
   rcases List.mem_append.1 hx with h' | h'
   ·have:=h.rb x h';omega
   ·rw [List.mem_singleton.1 h'];omega
 ·rename_i hn
  refine ⟨h.o,h.pl,h.pb,h.pm,fun x hx=> ?_⟩
  rcases List.mem_append.1 hx with h' | h'
  ·exact h.rb x h'
  ·rw [List.mem_singleton.1 h']
   show (st.place.getD t 0).toNat<st.ord.length
   have:=h.pb t ht;omega
theorem cput_len (st:CS) (t:Nat):(cput st t).row.length=st.row.length+1∧st.ord.length≤(cput st t).ord.length:=by
 unfold cput;split<;>simp
theorem crow_take {n:Nat} {st:CS} (h:st.Ok n) {nx:List (List Nat)} {block:List Nat} (hb:∀s c,toOf nx block s c<n) (s:Nat) (cells:List Nat):
  ∀k,k≤cells.length→((cells.take k).foldl (fun st c=>cput st (toOf nx block s c)) {st with row:=[]}).Ok n∧((cells.take k).foldl (fun st c=>cput st (toOf nx block s c)) {st with row:=[]}).row.length=k∧st.ord.length≤((cells.take k).foldl (fun st c=>cput st (toOf nx block s c)) {st with row:=[]}).ord.length
 | 0,_=>⟨⟨h.o,h.pl,h.pb,h.pm,by simp⟩,rfl,Nat.le_refl _⟩
 | k+1,hk=>by
  rw [foldl_take_succ _ _ _ _ hk]
  obtain ⟨h1,h2,h3⟩:=crow_take h hb s cells k (by omega)
  have:=cput_len ((cells.take k).foldl (fun st c=>cput st (toOf nx block s c)) {st with row:=[]}) (toOf nx block s cells[k])
  exact ⟨cput_ok h1 (hb _ _),by rw [this.1,h2],by omega⟩
theorem crow_ok {n:Nat} {st:CS} (h:st.Ok n) {nx:List (List Nat)} {block:List Nat} (hb:∀s c,toOf nx block s c<n) (s:Nat) (cells:List Nat):
  (crow nx block s cells st).Ok n∧(crow nx block s cells st).row.length=cells.length∧st.ord.length≤(crow nx block s cells st).ord.length:=by
 have:=crow_take h hb s cells cells.length (Nat.le_refl _)
 rw [List.take_length] at this
 exact this
structure CA.Ok (n m i:Nat) (a:CA):Prop where
 st:a.st.Ok n
 il:i≤a.st.ord.length
 nl:a.nx.length=i
 al:a.ac.length=i
 rl:∀r∈a.nx,r.length=m
 rb:∀r∈a.nx,∀t∈r,t<a.st.ord.length
theorem cstep_ok {T:TB} {block reps cells:List Nat} {n i:Nat} {a:CA} (h:a.Ok n cells.length i) (hb:∀s c,toOf T.nx block s c<n) (hi:i<a.st.ord.length):(cstep T block reps cells a i).Ok n cells.length (i+1):=by
 obtain ⟨h1,h2,h3⟩:=crow_ok h.st hb (reps.getD (a.st.ord.getD i 0) 0) cells
 refine ⟨h1,by show i+1≤(crow _ _ _ _ _).ord.length;omega,by simp [cstep,h.nl],by simp [cstep,h.al],fun r hr=> ?_,fun r hr t ht=> ?_⟩
 ·rcases List.mem_append.1 hr with h' | h'
  ·exact h.rl r h'
  ·rw [List.mem_singleton.1 h'];exact h2
 ·show t<(crow _ _ _ _ _).ord.length
  rcases List.mem_append.1 hr with h' | h'
  ·have:=h.rb r h' t ht;omega
  ·rw [List.mem_singleton.1 h'] at ht;exact h1.rb t ht
theorem ca0_ok {block reps:List Nat} {m:Nat} (hb:block.getD 0 0<reps.length):(ca0 block reps).Ok reps.length m 0:=by
 have hs:block.getD 0 0<(List.replicate reps.length (-1:Int)).length:=by rw [List.length_replicate];exact hb
 refine ⟨⟨⟨by simp [ca0],by simp only [ca0,List.mem_singleton];rintro x rfl;exact hb,by simp [ca0]⟩,by simp [ca0],fun t ht=> ?_,fun t ht hlt hm=> ?_,by simp [ca0]⟩,Nat.zero_le _,rfl,rfl,by simp [ca0],by simp [ca0]⟩
 ·simp only [ca0,List.length_singleton]
  rw [getD_set _ _ _ _ _ hs]
  split
  ·omega
  ·rw [List.getD_eq_getElem?_getD,List.getElem?_replicate,if_pos ht];simp
 ·simp only [ca0,List.mem_singleton] at hm
  subst hm
  simp only [ca0] at hlt
  rw [getD_set _ _ _ _ _ hs,if_pos rfl] at hlt
  omega
theorem canF_ok {T:TB} {block reps cells:List Nat} {n:Nat} (hb:∀s c,toOf T.nx block s c<n):∀(f i:Nat) (a:CA),a.Ok n cells.length i→n≤f+i→∃k,(canF T block reps cells f i a).Ok n cells.length k∧k=(canF T block reps cells f i a).st.ord.length
 | 0,i,a,h,hf=>⟨i,h,by have:=h.st.o.len;have:=h.il;simp only [canF];omega⟩
 | f+1,i,a,h,hf=>by
  unfold canF
  split
  ·rename_i hi
   exact canF_ok hb f _ _ (cstep_ok h hb hi) (by omega)
  ·rename_i hi
   exact ⟨i,h,by have:=h.il;omega⟩
theorem canF_step (T:TB) (block reps cells:List Nat) (n i:Nat) (a:CA) (h:i<a.st.ord.length) (hn:a.st.ord.length≤n):canF T block reps cells (n - i) i a=canF T block reps cells (n - (i+1)) (i+1) (cstep T block reps cells a i):=by
 rw [show n - i=(n - (i+1))+1 by omega,canF,if_pos h]
theorem canF_end (T:TB) (block reps cells:List Nat) (f i:Nat) (a:CA) (h:a.st.ord.length≤i):canF T block reps cells f i a=a:=by
 cases f with
 | zero=>rfl
 | succ f=>rw [canF,if_neg (by omega)]
theorem toOf_lt {nx:List (List Nat)} {n:Nat} {l:List Nat} {p:List Nat×List Nat} (h:BOk n l p) (s c:Nat):toOf nx p.1 s c<p.2.length:=by
 unfold toOf
 generalize (nx.getD s []).getD c 0=t
 by_cases ht:t<p.1.length
 ·exact h.bb _ (getD_mem _ _ _ ht)
 ·rw [List.getD_eq_getElem?_getD,List.getElem?_eq_none (by omega)];exact h.r1
theorem canM_ok {T:TB} (h:T.Ok) {l:List Nat} (hl:LOk T.nx.length l) {p:List Nat×List Nat} (hb:BOk T.nx.length l p) {m:MS} (hm:m.Ok T.cells 256) (h1:1≤m.ks.length):
  (canM T p m).Ok∧(canM T p m).nx.length≤T.nx.length:=by
 have h0:p.1.getD 0 0<p.2.length:=hb.bb _ (getD_mem _ 0 0 (by rw [hb.bl];exact h.n1))
 obtain ⟨k,hk,he⟩:=canF_ok (T:=T) (reps:=p.2) (cells:=m.cells) (toOf_lt hb) p.2.length 0 (ca0 _ _) (ca0_ok h0) (by omega)
 have hkl:k≤T.nx.length:=by
  have:=hk.st.o.len;have:=hb.rl;have:=hl.len;omega
 unfold canM
 generalize canF T p.1 p.2 m.cells p.2.length 0 (ca0 p.1 p.2)=a at hk he ⊢
 refine ⟨⟨?_,?_,?_,?_,?_,?_,?_⟩,?_⟩
 ·show 1≤m.cls.length
  rw [hm.cc];exact h1
 ·show m.cls.length≤256
  rw [hm.cc];exact hm.le
 ·show 1≤a.nx.length
  rw [hk.nl,he];exact hk.st.o.ne
 ·show a.nx.length≤_
  rw [hk.nl];have:=h.nn;omega
 ·show a.ac.length=a.nx.length
  rw [hk.nl,hk.al]
 ·intro r hr
  show _=m.cls.length
  rw [hm.cc,← hm.cl];exact hk.rl r hr
 ·intro r hr t ht
  show t<a.nx.length
  rw [hk.nl,he];exact hk.rb r hr t ht
 ·show a.nx.length≤_
  rw [hk.nl];exact hkl
theorem TB.Ok.canon {T:TB} (h:T.Ok):T.canon.Ok∧T.canon.nx.length≤T.nx.length:=
 canM_ok h h.reach (T.refine_ok h.reach) (mergeK_ok h _ _ 256 (Nat.le_refl _)) (mergeK_ne h _ _ 255 (by omega))
end Go.Proofs.YtncnfncglacheaaGreatDoor
