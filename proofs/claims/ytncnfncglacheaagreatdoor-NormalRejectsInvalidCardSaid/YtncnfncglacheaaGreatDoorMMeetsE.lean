/- normal.Meets of a normalizer that is not valid, for a question of two programs that the resolver accepts. -/
import Derived.Test.YtncnfncglacheaaGreatDoorMHeldD
import Derived.Test.YtncnfncglacheaaGreatDoorMMeets
import Derived.Test.YtncnfncglacheaaGreatDoorMSmE
namespace Go.Proofs.YtncnfncglacheaaGreatDoor
open Go.RowKit Mem
set_option maxRecDepth 100000
set_option maxHeartbeats 16000000 in
theorem nMeetsBadE (w:World) (N:NZ) (pc pr pe:Option Addr) (kc kr ke:Nat) (hv:NzAt w (.agg #[.slice pc N.cls.length kc, .slice pr N.rows.length kr, .slice pe N.ends.length ke]) N) (hval:N.valid=false) (sa ba sb bb:Sl) (hpA:Ev.CkAt w (.agg #[sa.v,ba.v])) (hpB:Ev.CkAt w (.agg #[sb.v,bb.v])) (pal:Option Addr) (nal kal:Nat) (most:Int):
  Calls Tryz.prog 10 #[.agg #[.slice pc N.cls.length kc, .slice pr N.rows.length kr, .slice pe N.ends.length ke], .agg #[sa.v,ba.v,sb.v,bb.v, .slice pal nal kal, .int .i64 most]] w fun e w'=>e= .returned (.tuple #[.slice none 0 0, .bool false, .int .i64 1])∧Below w.heap.size w w':=by
 have HV:=Lib.hid hv
 have HPA:=Lib.hid hpA
 have HPB:=Lib.hid hpB
 clear hv hpA hpB
 go_enter Tryz.func10,Tryz.ntmps10
 go_upto_region 1 with (fail)
 obtain ⟨W,hW,hB,hs,g0,g1,g2,g3,g4⟩:∃W,(((((w.alloc (.cells #[.slice pc N.cls.length kc, .slice pr N.rows.length kr, .slice pe N.ends.length ke] 37)).alloc (.cells #[.slice sa.p sa.n sa.c, .slice ba.p ba.n ba.c, .slice sb.p sb.n sb.c, .slice bb.p bb.n bb.c, .slice pal nal kal, .int .i64 most] 32)).alloc (.cells #[.slice none 0 0] 22)).alloc (.cells #[.bool false] 4)).alloc (.cells #[.int .i64 0] 39))=W∧Below w.heap.size w W∧W.heap.size=w.heap.size+5∧W.heap[w.heap.size]?=some (.cells #[.slice pc N.cls.length kc, .slice pr N.rows.length kr, .slice pe N.ends.length ke] 37 (0,0))∧W.heap[w.heap.size+1]?=some (.cells #[.slice sa.p sa.n sa.c, .slice ba.p ba.n ba.c, .slice sb.p sb.n sb.c, .slice bb.p bb.n bb.c, .slice pal nal kal, .int .i64 most] 32 (0,0))∧Row oV W (w.heap.size+2) 22 [on]∧Row oV W (w.heap.size+3) 4 [ob false]∧Row oV W (w.heap.size+4) 39 [oi 0]:=by
  refine ⟨_,rfl,below_al (below_al (below_al (below_al (below_al (Below.refl _ _) (Nat.le_refl _) _) (Nat.le_refl _) _) (Nat.le_refl _) _) (Nat.le_refl _) _) (Nat.le_refl _) _,by simp,?_,?_,?_,?_,?_⟩
  all_goals repeat (first | (refine heap_new' _ _ _ ?_;(simp;done)) | (refine (Below.heap_alloc _ _ _ ?_).trans ?_;·(simp<;>omega)))
 rw [hW]
 clear hW
 have HC:Hid (∀X:World,Below W.heap.size W X→(X.cell? ⟨w.heap.size,0,none⟩=some (.slice pc N.cls.length kc)∧X.cell? ⟨w.heap.size,1,none⟩=some (.slice pr N.rows.length kr)∧X.cell? ⟨w.heap.size,2,none⟩=some (.slice pe N.ends.length ke))∧X.cell? ⟨w.heap.size+1,0,none⟩=some (.slice sa.p sa.n sa.c)∧X.cell? ⟨w.heap.size+1,1,none⟩=some (.slice ba.p ba.n ba.c)∧X.cell? ⟨w.heap.size+1,2,none⟩=some (.slice sb.p sb.n sb.c)∧X.cell? ⟨w.heap.size+1,3,none⟩=some (.slice bb.p bb.n bb.c)):=Lib.hid fun X hX=>by
  have h1:=(hX.block w.heap.size (by omega)).trans g0
  have h2:=(hX.block (w.heap.size+1) (by omega)).trans g1
  refine ⟨⟨?_,?_,?_⟩,?_,?_,?_,?_⟩<;>(unfold World.cell?;first | (rw [h1];rfl) | (rw [h2];rfl))
 have HG:=Lib.hid (And.intro g2 (And.intro g3 g4))
 clear g0 g1 g2 g3 g4
 have hW:Below W.heap.size W W:=Below.refl _ _
 obtain ⟨⟨c0,c1,c2⟩,q0,q1,q2,q3⟩:=HC.out W hW
 go_wp2_with fail
 refine (HPA.out W hB).mono ?_
 rintro e W1 ⟨ax,ay,ap,al,ac,rfl,hB1⟩
 clear c0 c1 c2 q0 q1 q2 q3
 have hZ1:Row oV (W1.alloc (.cells #[.int .i64 0, .int .i64 0, .slice none 0 0] 115)) W1.heap.size 115 [oi 0,oi 0,on]:=Row.new _ _ rfl
 have hY1:Below W.heap.size W W1:=hW.trans (hB1.mono hW.size)
 go_wp2_with (((with_reducible refine zS (l':=[oi ax,oi ay,⟨.slice ap al ac,rfl⟩]) hZ1 aggInfo ?_);(intro X1 hs1 hG1 hz1);(refine Pause.back ?_)))
 have hX1:Below W.heap.size W X1:=below_row hY1 hG1
 clear hZ1 hs1 hG1 hz1 hB1 hW hY1
 generalize W1.heap.size=m1 at *
 obtain ⟨⟨c0,c1,c2⟩,q0,q1,q2,q3⟩:=HC.out X1 hX1
 refine Pause.out ?_
 go_wp2_with fail
 refine (HPB.out X1 (hB.trans (hX1.mono hB.size))).mono ?_
 rintro e W2 ⟨bx,bz,bp,bl,bc,rfl,hB2⟩
 clear c0 c1 c2 q0 q1 q2 q3
 have hZ2:Row oV (W2.alloc (.cells #[.int .i64 0, .int .i64 0, .slice none 0 0] 115)) W2.heap.size 115 [oi 0,oi 0,on]:=Row.new _ _ rfl
 have hY2:Below W.heap.size W W2:=hX1.trans (hB2.mono hX1.size)
 go_wp2_with (((with_reducible refine zS (l':=[oi bx,oi bz,⟨.slice bp bl bc,rfl⟩]) hZ2 aggInfo ?_);(intro X2 hs2 hG2 hz2);(refine Pause.back ?_)))
 have hX2:Below W.heap.size W X2:=below_row hY2 hG2
 clear hZ2 hs2 hG2 hz2 hB2 hX1 hY2
 generalize W2.heap.size=m2 at *
 obtain ⟨⟨c0,c1,c2⟩,q0,q1,q2,q3⟩:=HC.out X2 hX2
 refine Pause.out ?_
 go_wp2_with fail
 refine (nValid X2 _ N (HV.out.below (hB.trans (hX2.mono hB.size)))).mono ?_
 rintro e X3 ⟨rfl,hB3⟩
 rw [hval]
 have hX3:Below W.heap.size W X3:=hX2.trans (hB3.mono hX2.size)
 clear c0 c1 c2 q0 q1 q2 q3 hX2 hB3
 obtain ⟨g2,g3,g4⟩:=HG.out
 replace g2:=g2.below hX3 (by omega)
 replace g3:=g3.below hX3 (by omega)
 replace g4:=g4.below hX3 (by omega)
 have f2:=g2.frozen 0
 have f3:=g3.frozen 0
 have f4:=g4.frozen 0
 have d2:X3.cell? ⟨w.heap.size+1+1,0,none⟩=some (.slice none 0 0):=by rw [g2.cell?];rfl
 have d3:X3.cell? ⟨w.heap.size+1+1+1,0,none⟩=some (.bool false):=by rw [g3.cell?];rfl
 have d4:X3.cell? ⟨w.heap.size+1+1+1+1,0,none⟩=some (.int .i64 0):=by rw [g4.cell?];rfl
 have hB9:=below_set (below_set (below_set (hB.trans (hX3.mono hB.size)) (b:=w.heap.size+1+1) 0 (by omega) (.slice none 0 0)) (b:=w.heap.size+1+1+1) 0 (by omega) (.bool false)) (b:=w.heap.size+1+1+1+1) 0 (by omega) (.int .i64 1)
 have e2:Row oV (((X3.setCell ⟨w.heap.size+1+1,0,none⟩ (.slice none 0 0)).setCell ⟨w.heap.size+1+1+1,0,none⟩ (.bool false)).setCell ⟨w.heap.size+1+1+1+1,0,none⟩ (.int .i64 1)) (w.heap.size+2) 22 [on]:=((g2.set 0 on).set_other (b':=w.heap.size+1+1+1) (by omega) 0 _).set_other (b':=w.heap.size+1+1+1+1) (by omega) 0 _
 have e3:Row oV (((X3.setCell ⟨w.heap.size+1+1,0,none⟩ (.slice none 0 0)).setCell ⟨w.heap.size+1+1+1,0,none⟩ (.bool false)).setCell ⟨w.heap.size+1+1+1+1,0,none⟩ (.int .i64 1)) (w.heap.size+3) 4 [ob false]:=((g3.set_other (b':=w.heap.size+1+1) (by omega) 0 _).set 0 (ob false)).set_other (b':=w.heap.size+1+1+1+1) (by omega) 0 _
 have e4:Row oV (((X3.setCell ⟨w.heap.size+1+1,0,none⟩ (.slice none 0 0)).setCell ⟨w.heap.size+1+1+1,0,none⟩ (.bool false)).setCell ⟨w.heap.size+1+1+1+1,0,none⟩ (.int .i64 1)) (w.heap.size+4) 39 [oi 1]:=((g4.set_other (b':=w.heap.size+1+1) (by omega) 0 _).set_other (b':=w.heap.size+1+1+1) (by omega) 0 _).set 0 (oi 1)
 clear g2 g3 g4
 go_wp2
 generalize (((X3.setCell ⟨w.heap.size+1+1,0,none⟩ (.slice none 0 0)).setCell ⟨w.heap.size+1+1+1,0,none⟩ (.bool false)).setCell ⟨w.heap.size+1+1+1+1,0,none⟩ (.int .i64 1))=X9 at *
 have d2':X9.cell? ⟨w.heap.size+1+1,0,none⟩=some (.slice none 0 0):=by rw [e2.cell?];rfl
 have d3':X9.cell? ⟨w.heap.size+1+1+1,0,none⟩=some (.bool false):=by rw [e3.cell?];rfl
 have d4':X9.cell? ⟨w.heap.size+1+1+1+1,0,none⟩=some (.int .i64 1):=by rw [e4.cell?];rfl
 refine bodyPost_ret (v:= .tuple #[.slice none 0 0, .bool false, .int .i64 1]) (by simp [results,Tryz.results10,go_sem,d2',d3',d4']) rfl ?_
 exact ⟨rfl,hB9⟩
end Go.Proofs.YtncnfncglacheaaGreatDoor
