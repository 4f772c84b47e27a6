/- univocalref25.Made. -/
import Derived.Test.YtncnfncglacheaaGreatDoorMKeeps
import Derived.Test.YtncnfncglacheaaGreatDoorMEvL
import Derived.Test.YtncnfncglacheaaGreatDoorMUpd
import Derived.Test.YtncnfncglacheaaGreatDoorMTree
import Derived.Test.YtncnfncglacheaaGreatDoorMExec
import Derived.Test.YtncnfncglacheaaGreatDoorMCells
import Derived.Test.YtncnfncglacheaaGreatDoorMNWrite
import Derived.Test.YtncnfncglacheaaGreatDoorMKeyS
import Derived.Test.YtncnfncglacheaaGreatDoorMHeldD
namespace Go.Proofs.YtncnfncglacheaaGreatDoor
open Go Go.RowKit Go.Shelf Mem
attribute [local go_sem] Oper.semAt_some
set_option maxRecDepth 100000
def NZ.kept (N:NZ) (x:Sc.Wd):Bool:=N.acc x && (x==N.outp x)
end Go.Proofs.YtncnfncglacheaaGreatDoor
namespace Go.Proofs.YtncnfncglacheaaGreatDoor
open Go.RowKit Mem
set_option maxRecDepth 100000
end Go.Proofs.YtncnfncglacheaaGreatDoor
namespace Go.Proofs.YtncnfncglacheaaGreatDoor
open Go.RowKit Mem
set_option maxRecDepth 100000
theorem aggNorm:AggT Tryz.prog 37 3:=⟨fun _=>by kernel_rfl,fun _=>by kernel_rfl⟩
theorem RdK.row {α:Type} {K:Nat} {enc:α→List OC} {w:World} {b:Nat} {t:TypeId} {l:List α} {cs:List OC} (h:Row oV w b t cs) (hc:l.flatMap enc=cs) (hk:∀x∈l,(enc x).length=K):RdK K enc w (.slice (some ⟨b,0,none⟩) l.length l.length) l:=by
 refine .inr ⟨b,0,l.length,rfl,Nat.le_refl _,fun i hi=> ?_,h.lt⟩
 subst hc
 intro j hj
 rw [h.cell?]
 congr 1
 have:∀(l:List α) (hk:∀x∈l,(enc x).length=K) (i:Nat) (hi:i<l.length) (j:Nat),j<(enc l[i]).length→(l.flatMap enc)[i * K+j]?=(enc l[i])[j]?:=by
  intro l
  induction l with
  | nil=>intro _ i hi;simp at hi
  | cons a l ih=>
   intro hk i hi j hj
   rw [List.flatMap_cons]
   cases i with
   | zero=>
    simp only [Nat.zero_mul,Nat.zero_add,List.getElem_cons_zero] at hj ⊢
    rw [List.getElem?_append_left hj]
   | succ i=>
    simp only [List.getElem_cons_succ] at hj ⊢
    have ha:(enc a).length=K:=hk a (List.mem_cons_self ..)
    rw [List.getElem?_append_right (by rw [ha,Nat.succ_mul];omega),ha]
    rw [show (i+1) * K+j - K=i * K+j by rw [Nat.succ_mul];omega]
    exact ih (fun x hx=>hk x (List.mem_cons_of_mem _ hx)) i (by simpa using hi) j hj
 rw [Nat.zero_add]
 exact this l hk i hi j hj
end Go.Proofs.YtncnfncglacheaaGreatDoor
namespace Go.Proofs.YtncnfncglacheaaGreatDoor
open Go Go.RowKit Mem
set_option maxRecDepth 100000
end Go.Proofs.YtncnfncglacheaaGreatDoor
namespace Go.Proofs.YtncnfncglacheaaGreatDoor
open Go Go.RowKit Mem
set_option maxRecDepth 100000
def ou (n:Int):OC:=⟨.int .u8 n,rfl⟩
set_option maxHeartbeats 16000000 in
theorem rCell (w:World) (k n:Nat) (hk:k<256) (hn:1≤n∧n≤4):Calls Tryz.prog 41 #[.int .i64 k, .int .i64 n] w fun e w'=>e= .returned (.agg (ceA (mkCell k n)))∧Below w.heap.size w w':=by
 have d1:(k:Int).tdiv 8=((k / 8:Nat):Int):=by rw [Int.tdiv_eq_ediv_of_nonneg (by omega)];omega
 have d1':(k:Int) / 8=((k / 8:Nat):Int):=by omega
 have d2:((k / 8:Nat):Int).tmod (n:Int)=((k / 8 % n:Nat):Int):=by rw [Int.tmod_eq_emod_of_nonneg (by omega)];omega
 have d2':((k / 8:Nat):Int) % (n:Int)=((k / 8 % n:Nat):Int):=by omega
 have hn0:¬(n:Int)=0:=by omega
 have hn1:(n:Int)≠0:=hn0
 obtain ⟨r,hr8,hr⟩:∃r,r<8∧k % 8=r:=⟨k % 8,Nat.mod_lt _ (by omega),rfl⟩
 have hmk:Hid (mkCell k n=⟨((k / 8 % n:Nat):Int),mkAct r,mkB r⟩):=Lib.hid (by unfold mkCell;rw [hr])
 have d3:(k:Int).tmod 8=(r:Int):=by rw [Int.tmod_eq_emod_of_nonneg (by omega)];omega
 have d4:(k:Int) % 8=(r:Int):=by omega
 generalize hq1:k / 8=q1 at *
 generalize hq2:q1 % n=q2 at *
 clear hr hq1 hq2
 go_enter Tryz.func41,Tryz.ntmps41
 go_upto_region 1 with (fail)
 obtain ⟨W,hW,hB,hs,r0⟩:∃W,(w.alloc (.cells #[.int .i64 0, .int .i64 0, .int .u8 0] 61))=W∧Below w.heap.size w W∧w.heap.size+1≤W.heap.size∧Row oV W w.heap.size 61 [oi 0,oi 0,ou 0]:=
  ⟨_,rfl,below_al (Below.refl _ _) (Nat.le_refl _) _,by simp,Row.new _ _ rfl⟩
 rw [hW]
 clear hW
 have hz:Row oV (W.alloc (.cells #[.int .i64 0, .int .i64 0, .int .u8 0] 61)) W.heap.size 61 [oi 0,oi 0,ou 0]:=Row.new _ _ rfl
 go_upto_region 2 with (((with_reducible refine zS (l':=[oi q2,oi 0,ou 0]) hz aggCe ?_);(intro W1 hs1 hG1 hz1)))
 have hb1:=below_row (Below.refl W.heap.size W) hG1
 replace r0:=r0.below hb1 r0.lt
 replace hB:=hB.trans (hb1.mono hB.size)
 generalize hcb:W.heap.size=cb at *
 have hcb':w.heap.size+1≤cb:=hs
 clear hs hz hG1 hz1 hb1 hcb W d1 d1' d2 d2' hn0 hn1
 have f1:=hs1.frozen 1
 have f2:=hs1.frozen 2
 have hl:=hs1.lt
 have hc1:W1.cell? ⟨cb,1,none⟩=some (.int .i64 0):=by rw [hs1.cell?];rfl
 have hc2:W1.cell? ⟨cb,2,none⟩=some (.int .u8 0):=by rw [hs1.cell?];rfl
 rcases (by omega:r=0∨r=1∨r=2∨r=3∨r=4∨r=5∨r=6∨r=7) with rfl | rfl | rfl | rfl | rfl | rfl | rfl | rfl
 ·have hrow:Row oV W1 cb 61 [oi q2,oi 0,ou 0]:=hs1
  have hr0:Row oV W1 w.heap.size 61 [oi 0,oi 0,ou 0]:=r0
  have hbl:Below w.heap.size w W1:=hB
  go_wp2_with (first
   | ((with_reducible refine zL hrow.at aggCe rfl (C:=#[.int .i64 q2, .int .i64 0, .int .u8 0]) ?_))
   | ((with_reducible refine zS (l':=[oi q2,oi 0,ou 0]) hr0 aggCe ?_);(intro W6 hs6 hG6 hz6)))
  refine bodyPost_ret (results_agg (f:=oV) (l:=[oi q2,oi 0,ou 0]) rfl _ aggCe w.heap.size 0 rfl hs6.at) rfl ?_
  exact ⟨by rw [hmk.out];rfl,hbl.grown hG6 hbl.size (fun j e=>by cases e;omega)⟩
 ·have hrow:Row oV W1 cb 61 [oi q2,oi 0,ou 0]:=hs1
  have hr0:Row oV W1 w.heap.size 61 [oi 0,oi 0,ou 0]:=r0
  have hbl:Below w.heap.size w W1:=hB
  go_wp2_with (first
   | ((with_reducible refine zL hrow.at aggCe rfl (C:=#[.int .i64 q2, .int .i64 0, .int .u8 0]) ?_))
   | ((with_reducible refine zS (l':=[oi q2,oi 0,ou 0]) hr0 aggCe ?_);(intro W6 hs6 hG6 hz6)))
  refine bodyPost_ret (results_agg (f:=oV) (l:=[oi q2,oi 0,ou 0]) rfl _ aggCe w.heap.size 0 rfl hs6.at) rfl ?_
  exact ⟨by rw [hmk.out];rfl,hbl.grown hG6 hbl.size (fun j e=>by cases e;omega)⟩
 ·have hrow:Row oV W1 cb 61 [oi q2,oi 0,ou 0]:=hs1
  have hr0:Row oV W1 w.heap.size 61 [oi 0,oi 0,ou 0]:=r0
  have hbl:Below w.heap.size w W1:=hB
  go_wp2_with (first
   | ((with_reducible refine zL hrow.at aggCe rfl (C:=#[.int .i64 q2, .int .i64 0, .int .u8 0]) ?_))
   | ((with_reducible refine zS (l':=[oi q2,oi 0,ou 0]) hr0 aggCe ?_);(intro W6 hs6 hG6 hz6)))
  refine bodyPost_ret (results_agg (f:=oV) (l:=[oi q2,oi 0,ou 0]) rfl _ aggCe w.heap.size 0 rfl hs6.at) rfl ?_
  exact ⟨by rw [hmk.out];rfl,hbl.grown hG6 hbl.size (fun j e=>by cases e;omega)⟩
 ·have hrow:Row oV (W1.setCell ⟨cb,1,none⟩ (.int .i64 1)) cb 61 [oi q2,oi 1,ou 0]:=(hs1.set 1 (oi 1))
  have hr0:Row oV (W1.setCell ⟨cb,1,none⟩ (.int .i64 1)) w.heap.size 61 [oi 0,oi 0,ou 0]:=(r0.set_other (b':=cb) (by omega) 1 (.int .i64 1))
  have hbl:Below w.heap.size w (W1.setCell ⟨cb,1,none⟩ (.int .i64 1)):=(below_set hB (b:=cb) 1 (by omega) (.int .i64 1))
  go_wp2_with (first
   | ((with_reducible refine zL hrow.at aggCe rfl (C:=#[.int .i64 q2, .int .i64 1, .int .u8 0]) ?_))
   | ((with_reducible refine zS (l':=[oi q2,oi 1,ou 0]) hr0 aggCe ?_);(intro W6 hs6 hG6 hz6)))
  refine bodyPost_ret (results_agg (f:=oV) (l:=[oi q2,oi 1,ou 0]) rfl _ aggCe w.heap.size 0 rfl hs6.at) rfl ?_
  exact ⟨by rw [hmk.out];rfl,hbl.grown hG6 hbl.size (fun j e=>by cases e;omega)⟩
 ·have hrow:Row oV ((W1.setCell ⟨cb,1,none⟩ (.int .i64 2)).setCell ⟨cb,2,none⟩ (.int .u8 97)) cb 61 [oi q2,oi 2,ou 97]:=((hs1.set 1 (oi 2)).set 2 (ou 97))
  have hr0:Row oV ((W1.setCell ⟨cb,1,none⟩ (.int .i64 2)).setCell ⟨cb,2,none⟩ (.int .u8 97)) w.heap.size 61 [oi 0,oi 0,ou 0]:=((r0.set_other (b':=cb) (by omega) 1 (.int .i64 2)).set_other (b':=cb) (by omega) 2 (.int .u8 97))
  have hbl:Below w.heap.size w ((W1.setCell ⟨cb,1,none⟩ (.int .i64 2)).setCell ⟨cb,2,none⟩ (.int .u8 97)):=(below_set (below_set hB (b:=cb) 1 (by omega) (.int .i64 2)) (b:=cb) 2 (by omega) (.int .u8 97))
  go_wp2_with (first
   | ((with_reducible refine zL hrow.at aggCe rfl (C:=#[.int .i64 q2, .int .i64 2, .int .u8 97]) ?_))
   | ((with_reducible refine zS (l':=[oi q2,oi 2,ou 97]) hr0 aggCe ?_);(intro W6 hs6 hG6 hz6)))
  refine bodyPost_ret (results_agg (f:=oV) (l:=[oi q2,oi 2,ou 97]) rfl _ aggCe w.heap.size 0 rfl hs6.at) rfl ?_
  exact ⟨by rw [hmk.out];rfl,hbl.grown hG6 hbl.size (fun j e=>by cases e;omega)⟩
 ·have hrow:Row oV ((W1.setCell ⟨cb,1,none⟩ (.int .i64 2)).setCell ⟨cb,2,none⟩ (.int .u8 98)) cb 61 [oi q2,oi 2,ou 98]:=((hs1.set 1 (oi 2)).set 2 (ou 98))
  have hr0:Row oV ((W1.setCell ⟨cb,1,none⟩ (.int .i64 2)).setCell ⟨cb,2,none⟩ (.int .u8 98)) w.heap.size 61 [oi 0,oi 0,ou 0]:=((r0.set_other (b':=cb) (by omega) 1 (.int .i64 2)).set_other (b':=cb) (by omega) 2 (.int .u8 98))
  have hbl:Below w.heap.size w ((W1.setCell ⟨cb,1,none⟩ (.int .i64 2)).setCell ⟨cb,2,none⟩ (.int .u8 98)):=(below_set (below_set hB (b:=cb) 1 (by omega) (.int .i64 2)) (b:=cb) 2 (by omega) (.int .u8 98))
  go_wp2_with (first
   | ((with_reducible refine zL hrow.at aggCe rfl (C:=#[.int .i64 q2, .int .i64 2, .int .u8 98]) ?_))
   | ((with_reducible refine zS (l':=[oi q2,oi 2,ou 98]) hr0 aggCe ?_);(intro W6 hs6 hG6 hz6)))
  refine bodyPost_ret (results_agg (f:=oV) (l:=[oi q2,oi 2,ou 98]) rfl _ aggCe w.heap.size 0 rfl hs6.at) rfl ?_
  exact ⟨by rw [hmk.out];rfl,hbl.grown hG6 hbl.size (fun j e=>by cases e;omega)⟩
 ·have hrow:Row oV (W1.setCell ⟨cb,1,none⟩ (.int .i64 3)) cb 61 [oi q2,oi 3,ou 0]:=(hs1.set 1 (oi 3))
  have hr0:Row oV (W1.setCell ⟨cb,1,none⟩ (.int .i64 3)) w.heap.size 61 [oi 0,oi 0,ou 0]:=(r0.set_other (b':=cb) (by omega) 1 (.int .i64 3))
  have hbl:Below w.heap.size w (W1.setCell ⟨cb,1,none⟩ (.int .i64 3)):=(below_set hB (b:=cb) 1 (by omega) (.int .i64 3))
  go_wp2_with (first
   | ((with_reducible refine zL hrow.at aggCe rfl (C:=#[.int .i64 q2, .int .i64 3, .int .u8 0]) ?_))
   | ((with_reducible refine zS (l':=[oi q2,oi 3,ou 0]) hr0 aggCe ?_);(intro W6 hs6 hG6 hz6)))
  refine bodyPost_ret (results_agg (f:=oV) (l:=[oi q2,oi 3,ou 0]) rfl _ aggCe w.heap.size 0 rfl hs6.at) rfl ?_
  exact ⟨by rw [hmk.out];rfl,hbl.grown hG6 hbl.size (fun j e=>by cases e;omega)⟩
 ·have hrow:Row oV (W1.setCell ⟨cb,1,none⟩ (.int .i64 3)) cb 61 [oi q2,oi 3,ou 0]:=(hs1.set 1 (oi 3))
  have hr0:Row oV (W1.setCell ⟨cb,1,none⟩ (.int .i64 3)) w.heap.size 61 [oi 0,oi 0,ou 0]:=(r0.set_other (b':=cb) (by omega) 1 (.int .i64 3))
  have hbl:Below w.heap.size w (W1.setCell ⟨cb,1,none⟩ (.int .i64 3)):=(below_set hB (b:=cb) 1 (by omega) (.int .i64 3))
  go_wp2_with (first
   | ((with_reducible refine zL hrow.at aggCe rfl (C:=#[.int .i64 q2, .int .i64 3, .int .u8 0]) ?_))
   | ((with_reducible refine zS (l':=[oi q2,oi 3,ou 0]) hr0 aggCe ?_);(intro W6 hs6 hG6 hz6)))
  refine bodyPost_ret (results_agg (f:=oV) (l:=[oi q2,oi 3,ou 0]) rfl _ aggCe w.heap.size 0 rfl hs6.at) rfl ?_
  exact ⟨by rw [hmk.out];rfl,hbl.grown hG6 hbl.size (fun j e=>by cases e;omega)⟩
end Go.Proofs.YtncnfncglacheaaGreatDoor
namespace Go.Proofs.YtncnfncglacheaaGreatDoor
open Go Go.RowKit Mem
set_option maxRecDepth 100000
theorem OwnK.cur {α:Type} {K:Nat} {enc:α→List OC} {w:World} {base g c:Nat} {e:TypeId} {x:α} (hk:∀x,(enc x).length=K) (h:OwnK K enc w base e (.slice (some ⟨g,0,none⟩) 1 c) [x]):
  base≤g∧∃cur,w.heap[g]?=some (.cells cur e (0,0))∧K≤cur.size∧∀w' y,w'.heap[g]?=some (.cells ((enc y).map oV++cur.toList.drop (enc y).length).toArray e (0,0))→OwnK K enc w' base e (.slice (some ⟨g,0,none⟩) 1 c) [y]:=by
 rcases h.2 with ⟨h0,_⟩ | ⟨g2,cap,cur,he,hbg,hc,hn,hm,hs,ht⟩
 ·cases h0
 ·cases he
  have hn':1≤c:=hn
  have hK:K≤cur.size:=by rw [hs];exact Nat.le_mul_of_pos_left K hn'
  refine ⟨hbg,cur,hc,hK,fun w' y hw=>⟨by simp [hk], .inr ⟨g,c,_,rfl,hbg,hw,hn,hm,?_,?_⟩⟩⟩
  ·simp [hk]
   omega
  ·simp [hk]
theorem OwnK.head {α:Type} {K:Nat} {enc:α→List OC} {w:World} {base g c:Nat} {e:TypeId} {x:α} (hk:∀x,(enc x).length=K) (h:OwnK K enc w base e (.slice (some ⟨g,0,none⟩) 1 c) [x]):At oV w g 0 (enc x):=by
 obtain ⟨b,o,he,hat,_⟩:=(h.rd hk).elem 0 (by simp)
 cases he
 simpa using hat
theorem OwnK.ptr {α:Type} {K:Nat} {enc:α→List OC} {w:World} {base n c:Nat} {p:Option Addr} {e:TypeId} {l:List α} (h:OwnK K enc w base e (.slice p n c) l) (hl:l≠[]):∃g,p=some ⟨g,0,none⟩:=by
 rcases h.2 with ⟨_,h0⟩ | ⟨g,cap,cur,he,_⟩
 ·exact absurd (List.length_eq_zero_iff.1 h0) hl
 ·injection he with he;exact ⟨g,he⟩
end Go.Proofs.YtncnfncglacheaaGreatDoor
namespace Go.Proofs.YtncnfncglacheaaGreatDoor
open Go Go.RowKit Mem
set_option maxRecDepth 100000
theorem RdK.grown {α:Type} {K:Nat} {enc:α→List OC} {w w':World} {g o n c:Nat} {l:List α} (h:RdK K enc w (.slice (some ⟨g,o,none⟩) n c) l) {row:Option Nat} (hg:w.grownBy w' row) (hne:some g≠row):RdK K enc w' (.slice (some ⟨g,o,none⟩) n c) l:=by
 rcases h with hn | ⟨b,o2,cap,he,hc,ha,hlt⟩
 ·exact .inl hn
 ·injection he with e1 e2 e3
  injection e1 with e1
  injection e1 with e1 e4
  subst e1;subst e2;subst e3;subst e4
  exact .inr ⟨_,_,_,rfl,hc,fun i hi=>(ha i hi).grown hg hlt hne,Nat.lt_of_lt_of_le hlt hg.size⟩
end Go.Proofs.YtncnfncglacheaaGreatDoor
namespace Go.Proofs.YtncnfncglacheaaGreatDoor
open Go Go.RowKit Mem
set_option maxRecDepth 100000
abbrev ClsR (w:World) (g:Nat):Prop:=Row oV w g 65 (clL clOo++(clL clOa++clL clOb))
theorem ClsR.rd {w:World} {g:Nat} (h:ClsR w g):RdK 4 clL w (.slice (some ⟨g,0,none⟩) 3 3) [clOo,clOa,clOb]:=RdK.row (l:=([clOo,clOa,clOb]:List Cl)) (cs:=clL clOo++(clL clOa++clL clOb)) h rfl (fun x _=>rfl)
structure MI (Y X:World) (l:List UInt8) (B nb g s r:Nat) (pr pe:Option Addr) (kr ke:Nat) (us:List OC):Prop where
 row:Row oV X nb 37 [osl g 3 3,slO pr s kr,slO pe r ke]
 cls:ClsR X g
 own:Mem.Own oV X B 62 (.slice pr s kr) us
 len:us.length=s
 each:∀i (h:i<us.length),OwnK 3 ceL X B 61 (oV us[i]) (mkRow l i 3)
 ends:Mem.Own Value.bool X B 4 (.slice pe r ke) (mkEnds l r)
 ds:∀i j (hi:i<us.length) (hj:j<us.length),i≠j→∀k,(oV us[i]).ownBlock=some k→(oV us[j]).ownBlock≠some k
 below:Below Y.heap.size Y X
 lo:Y.heap.size≤nb∧nb<B∧g<B∧g≠nb∧B≤X.heap.size
section
variable {Y X X':World} {l:List UInt8} {B nb g s r:Nat} {pr pe:Option Addr} {kr ke:Nat} {us:List OC}
theorem MI.mono (h:MI Y X l B nb g s r pr pe kr ke us) (hb:Below X.heap.size X X'):MI Y X' l B nb g s r pr pe kr ke us:=
 ⟨h.row.below hb h.row.lt,h.cls.below hb h.cls.lt,h.own.below' hb,h.len,fun i hi=>(h.each i hi).below' hb,h.ends.below' hb,h.ds,h.below.trans (hb.mono h.below.size),h.lo.1,h.lo.2.1,h.lo.2.2.1,h.lo.2.2.2.1,Nat.le_trans h.lo.2.2.2.2 hb.size⟩
theorem grown_one (w:World) (b i:Nat) (v:Value):w.grownBy (w.setCell ⟨b,i,none⟩ v) (some b):=grown_set (grown_of_below (Below.refl w.heap.size w) (some b)) i v
theorem OwnK.far {α:Type} {K:Nat} {enc:α→List OC} {w w':World} {base:Nat} {e:TypeId} {v:Value} {l:List α} (h:OwnK K enc w base e v l) {b:Nat} (hb:b<base) (hg:w.grownBy w' (some b)):OwnK K enc w' base e v l:=
 h.grown hg fun k hk e=>by injection e with e;have:=(h.lt k hk).1;omega
theorem Own_far {α:Type} {f:α→Value} {w w':World} {base:Nat} {e:TypeId} {v:Value} {l:List α} (h:Mem.Own f w base e v l) {b:Nat} (hb:b<base) (hg:w.grownBy w' (some b)):Mem.Own f w' base e v l:=
 h.grownO' hg fun k hk e=>by injection e with e;have:=(h.lt k hk).1;omega
theorem MI.cells (h:MI Y X l B nb g s r pr pe kr ke us) (u:OC) (hu:OwnK 3 ceL X B 61 (oV u) (mkRow l s 3)) (o:Obj) {p3:Option Addr} {c3:Nat} {w3:World}
  (hd:∀i (hi:i<us.length) k,(oV us[i]).ownBlock=some k→(oV u).ownBlock≠some k) (hO:Mem.Own oV w3 B 62 (.slice p3 (s+1) c3) (us++[u])) (hG:(X.alloc o).grownBy w3 (Value.slice pr s kr).ownBlock):
  MI Y (w3.setCell ⟨nb,1,none⟩ (.slice p3 (s+1) c3)) l B nb g (s+1) r p3 pe c3 ke (us++[u]):=by
 have ha:=below_al (Below.refl X.heap.size X) (Nat.le_refl _) o
 have h2:=h.mono ha
 have hnb:∀k,(Value.slice pr s kr).ownBlock=some k→k≠nb:=fun k hk e=>by have:=(h2.own.lt k hk).1;have:=h2.lo.2.1;omega
 have hng:∀k,(Value.slice pr s kr).ownBlock=some k→k≠g:=fun k hk e=>by have:=(h2.own.lt k hk).1;have:=h2.lo.2.2.1;omega
 have r1:=h2.row.grown hG (fun e=>hnb nb e.symm rfl)
 have c1:=h2.cls.grown hG (fun e=>hng g e.symm rfl)
 have e1:∀i (hi:i<us.length),OwnK 3 ceL w3 B 61 (oV us[i]) (mkRow l i 3):=fun i hi=>(h2.each i hi).grown hG ((h2.each i hi).type h2.own (by decide))
 have u1:=(hu.below' ha).grown hG ((hu.below' ha).type h2.own (by decide))
 have d1:=h2.ends.grownO' hG (own_type h2.ends h2.own (by decide))
 have b1:Below Y.heap.size Y w3:=h2.below.grown hG h2.below.size fun k hk=>by have:=(h2.own.lt k hk).1;have:=h2.lo.1;have:=h2.lo.2.1;omega
 have hg1:=grown_one w3 nb 1 (.slice p3 (s+1) c3)
 have hsz:=hG.size
 have hlo:=h2.lo
 refine ⟨?_,c1.grown hg1 (fun e=>by injection e with e;exact hlo.2.2.2.1 e),Own_far hO hlo.2.1 hg1,by rw [List.length_append,h.len];rfl,fun i hi=> ?_,Own_far d1 hlo.2.1 hg1,?_,below_set b1 1 hlo.1 _,hlo.1,hlo.2.1,hlo.2.2.1,hlo.2.2.2.1,?_⟩
 ·exact r1.set 1 (slO p3 (s+1) c3)
 ·rcases Nat.lt_or_ge i us.length with hi2 | hi2
  ·rw [List.getElem_append_left hi2];exact (e1 i hi2).far hlo.2.1 hg1
  ·have hie:i=us.length:=by simp at hi;omega
   subst hie
   have:(us++[u])[us.length]'hi=u:=by simp
   rw [this,h.len]
   exact u1.far hlo.2.1 hg1
 ·have hlast:(us++[u])[us.length]'(by simp)=u:=by simp
  intro i j hi hj hij k hk
  have hi0:i<us.length+1:=by simpa using hi
  have hj0:j<us.length+1:=by simpa using hj
  rcases Nat.lt_or_ge i us.length with hi2 | hi2
  ·rw [List.getElem_append_left hi2] at hk
   rcases Nat.lt_or_ge j us.length with hj2 | hj2
   ·rw [List.getElem_append_left hj2];exact h.ds i j hi2 hj2 hij k hk
   ·obtain rfl:j=us.length:=by omega
    rw [hlast];exact hd i hi2 k hk
  ·obtain rfl:i=us.length:=by omega
   rw [hlast] at hk
   have hj2:j<us.length:=by omega
   rw [List.getElem_append_left hj2]
   exact fun e=>hd j hj2 k e hk
 ·have:=hg1.size;omega
theorem MI.flags (h:MI Y X l B nb g s r pr pe kr ke us) (o:Obj) {p3:Option Addr} {c3:Nat} {w3:World}
  (hO:Mem.Own Value.bool w3 B 4 (.slice p3 (r+1) c3) (mkEnds l (r+1))) (hG:(X.alloc o).grownBy w3 (Value.slice pe r ke).ownBlock):
  (Row oV w3 nb 37 [osl g 3 3,slO pr s kr,slO pe r ke]∧Below Y.heap.size Y w3)∧MI Y (w3.setCell ⟨nb,2,none⟩ (.slice p3 (r+1) c3)) l B nb g s (r+1) pr p3 kr c3 us:=by
 have ha:=below_al (Below.refl X.heap.size X) (Nat.le_refl _) o
 have h2:=h.mono ha
 have hnb:∀k,(Value.slice pe r ke).ownBlock=some k→k≠nb:=fun k hk e=>by have:=(h2.ends.lt k hk).1;have:=h2.lo.2.1;omega
 have hng:∀k,(Value.slice pe r ke).ownBlock=some k→k≠g:=fun k hk e=>by have:=(h2.ends.lt k hk).1;have:=h2.lo.2.2.1;omega
 have r1:=h2.row.grown hG (fun e=>hnb nb e.symm rfl)
 have c1:=h2.cls.grown hG (fun e=>hng g e.symm rfl)
 have e1:∀i (hi:i<us.length),OwnK 3 ceL w3 B 61 (oV us[i]) (mkRow l i 3):=fun i hi=>(h2.each i hi).grown hG ((h2.each i hi).type h2.ends (by decide))
 have d1:=h2.own.grownO' hG (own_type h2.own h2.ends (by decide))
 have b1:Below Y.heap.size Y w3:=h2.below.grown hG h2.below.size fun k hk=>by have:=(h2.ends.lt k hk).1;have:=h2.lo.1;have:=h2.lo.2.1;omega
 have hg1:=grown_one w3 nb 2 (.slice p3 (r+1) c3)
 have hsz:=hG.size
 have hlo:=h2.lo
 refine ⟨⟨r1,b1⟩,r1.set 2 (slO p3 (r+1) c3),c1.grown hg1 (fun e=>by injection e with e;exact hlo.2.2.2.1 e),Own_far d1 hlo.2.1 hg1,h.len,fun i hi=>(e1 i hi).far hlo.2.1 hg1,Own_far hO hlo.2.1 hg1,h.ds,below_set b1 2 hlo.1 _,hlo.1,hlo.2.1,hlo.2.2.1,hlo.2.2.2.1,?_⟩
 have:=hg1.size;omega
end
end Go.Proofs.YtncnfncglacheaaGreatDoor
namespace Go.Proofs.YtncnfncglacheaaGreatDoor
open Go Go.RowKit Mem
set_option maxRecDepth 100000
theorem eltCe:EltK Tryz.prog 62 61 3 24:=EltK.mk' (z:= .agg #[.int .i64 0, .int .i64 0, .int .u8 0]) Tryz.underlying62 (by kernel_rfl) rfl
theorem eltRow:Elt Tryz.prog 34 62 24:=Elt.mk' (z:= .slice none 0 0) Tryz.underlying34 (by kernel_rfl) rfl
theorem eltBo:Elt Tryz.prog 35 4 1:=Elt.mk' (z:= .bool false) Tryz.underlying35 (by kernel_rfl) rfl
theorem ceL_len (c:Ce):(ceL c).length=3:=rfl
theorem bV_one' (x:Bool):(Value.bool x).oneCell'=true:=rfl
theorem compl_o:(clOa.union clOb).compl=clOo:=by decide+kernel
set_option maxHeartbeats 32000000 in
theorem rMadeO (w:World) (p:Option Addr) (c:Nat) (l:List UInt8) (hv:Rd u8V w (.slice p l.length c) l):Calls Tryz.prog 9 #[.slice p l.length c] w fun e w'=>∃(B g nb:Nat) (pr pe:Option Addr) (kr ke:Nat) (us:List OC) (X2 X:World),e= .returned (.agg #[.slice (some ⟨g,0,none⟩) 3 3, .slice pr (mkStates l) kr, .slice pe (mkStates l) ke])∧MI X2 X l B nb g (mkStates l) (mkStates l) pr pe kr ke us∧Below w.heap.size w X∧Row oV X w.heap.size 37 [on,on,on]∧w.heap.size<X2.heap.size∧w.heap.size<g∧X.grownBy w' (some w.heap.size):=by
 have HV:=Lib.hid hv
 clear hv
 go_enter Tryz.func9,Tryz.ntmps9
 go_upto_region 2 with (fail)
 obtain ⟨W,hW,hB,hs,r0⟩:∃W,(w.alloc (.cells #[.slice none 0 0, .slice none 0 0, .slice none 0 0] 37))=W∧Below w.heap.size w W∧w.heap.size+1≤W.heap.size∧Row oV W w.heap.size 37 [on,on,on]:=
  ⟨_,rfl,below_al (Below.refl _ _) (Nat.le_refl _) _,by simp,Row.new _ _ rfl⟩
 rw [hW]
 clear hW
 go_cut [13] (fun s13 wx=>s13= .bool (decide (0<l.length))∧wx=W)
 ·go_wp2
  go_meet
  exact ⟨by simp,rfl⟩
 obtain ⟨h13,rfl⟩:=hcut
 rename_i hK
 refine hK _ _ ?_
 clear hK
 go_cut [3] (fun s3 wx=>s3= .int .i64 (mkStates l:Nat)∧wx=wc)
 ·by_cases h0:0<l.length
  ·rw [decide_eq_true h0] at h13
   subst h13
   have hq:(0:Int)<(l.length:Int):=by omega
   obtain ⟨b,o,rfl,hcl⟩:∃b o,p=some ⟨b,o,none⟩∧wc.cell? ⟨b,o,none⟩=some (.int .u8 (l[0].toNat:Int)):=by
    rcases HV.out with ⟨_,_,e0⟩ | ⟨b,o,cap,he,hc,hat,hbl⟩
    ·rw [e0] at h0;simp at h0
    ·cases he
     refine ⟨b,o,rfl,?_⟩
     have:=hat 0 h0
     rw [hB.cell (p:=⟨b,o,none⟩) hbl]
     rw [Nat.add_zero,List.getElem?_eq_getElem h0] at this
     exact this
   have HM:Hid (mkStates l=1+l[0].toNat % 4):=Lib.hid (by unfold mkStates;rw [if_pos h0,List.getElem?_eq_getElem h0];rfl)
   have hx1:((l[0].toNat:Nat):Int).tmod 4=((l[0].toNat % 4:Nat):Int):=by rw [Int.tmod_eq_emod_of_nonneg (by omega)];omega
   have hx2:((l[0].toNat:Nat):Int) % 4=((l[0].toNat % 4:Nat):Int):=by omega
   have hx3:l[0].toNat % 4<4:=Nat.mod_lt _ (by omega)
   generalize l[0].toNat=y at *
   generalize y % 4=x at *
   have hw1:IntKind.u8.wrap (x:Int)=(x:Int):=by rw [IntKind.wrap_u8];omega
   have hw2:wrap64 (x:Int)=(x:Int):=by unfold wrap64;omega
   have hw3:wrap64 (1+(x:Int))=1+(x:Int):=by unfold wrap64;omega
   go_wp2
   go_meet
   have e1:((1+x:Nat):Int)=1+(x:Int):=by omega
   exact ⟨by rw [HM.out,e1]<;>(first | rfl | rw [hw3]),rfl⟩
  ·rw [decide_eq_false h0] at h13
   subst h13
   have hq:¬(0:Int)<(l.length:Int):=by omega
   have HM:Hid (mkStates l=1):=Lib.hid (by unfold mkStates;rw [if_neg h0])
   go_wp2
   go_meet
   exact ⟨by rw [HM.out];rfl,rfl⟩
 obtain ⟨rfl,rfl⟩:=hcut
 clear h13
 have hst:=mkStates_bd l
 generalize hsn:mkStates l=sn at *
 clear hs
 go_upto_region 4 with (fail)
 go_wp2_with fail
 have hRd:Rd u8V (wc.alloc (.cells #[.int .u8 97] 5)) (.slice (some ⟨wc.heap.size,0,none⟩) 1 1) [97]:= .inr ⟨wc.heap.size,0,1,rfl,Nat.le_refl _,(Row.new (f:=u8V) (l:=[97]) wc _ rfl).at,by simp⟩
 have hb:=below_al (Below.refl wc.heap.size wc) (Nat.le_refl _) (.cells #[.int .u8 97] 5)
 generalize (wc.alloc (.cells #[.int .u8 97] 5))=AX1 at *
 refine (rOfO AX1 _ [97] hRd (by simp)).mono ?_
 rintro e BX1 ⟨rfl,hb2⟩
 rw [show addAll [97]=clOa from by decide+kernel]
 have hb3:=hb.trans (hb2.mono hb.size)
 replace r0:=r0.below hb3 r0.lt
 replace hB:=hB.trans (hb3.mono hB.size)
 have hls4:w.heap.size<BX1.heap.size:=r0.lt
 have hz:Row oV (BX1.alloc (.cells #[.int .u64 0, .int .u64 0, .int .u64 0, .int .u64 0] 65)) BX1.heap.size 65 [ow 0,ow 0,ow 0,ow 0]:=Row.new _ _ rfl
 go_upto_region 5 with (((with_reducible refine zS (l':=clL clOa) hz aggCl ?_);(intro X1 s4 hG1 hz1)))
 have hb4:=below_row (Below.refl BX1.heap.size BX1) hG1
 replace r0:=r0.below hb4 r0.lt
 replace hB:=hB.trans (hb4.mono hB.size)
 clear hRd hb hb2 hb3 hz hG1 hz1 hb4
 generalize BX1.heap.size=ns4 at *
 go_wp2_with fail
 have hRd:Rd u8V (X1.alloc (.cells #[.int .u8 98] 5)) (.slice (some ⟨X1.heap.size,0,none⟩) 1 1) [98]:= .inr ⟨X1.heap.size,0,1,rfl,Nat.le_refl _,(Row.new (f:=u8V) (l:=[98]) X1 _ rfl).at,by simp⟩
 have hb:=below_al (Below.refl X1.heap.size X1) (Nat.le_refl _) (.cells #[.int .u8 98] 5)
 generalize (X1.alloc (.cells #[.int .u8 98] 5))=AX2 at *
 refine (rOfO AX2 _ [98] hRd (by simp)).mono ?_
 rintro e BX2 ⟨rfl,hb2⟩
 rw [show addAll [98]=clOb from by decide+kernel]
 have hb3:=hb.trans (hb2.mono hb.size)
 replace r0:=r0.below hb3 r0.lt
 replace s4:=s4.below hb3 s4.lt
 replace hB:=hB.trans (hb3.mono hB.size)
 have hls5:w.heap.size<BX2.heap.size:=r0.lt
 have hz:Row oV (BX2.alloc (.cells #[.int .u64 0, .int .u64 0, .int .u64 0, .int .u64 0] 65)) BX2.heap.size 65 [ow 0,ow 0,ow 0,ow 0]:=Row.new _ _ rfl
 go_upto_region 6 with (((with_reducible refine zS (l':=clL clOb) hz aggCl ?_);(intro X2 s5 hG1 hz1)))
 have hb4:=below_row (Below.refl BX2.heap.size BX2) hG1
 replace r0:=r0.below hb4 r0.lt
 replace s4:=s4.below hb4 s4.lt
 replace hB:=hB.trans (hb4.mono hB.size)
 clear hRd hb hb2 hb3 hz hG1 hz1 hb4
 generalize BX2.heap.size=ns5 at *
 rw [put_none]
 go_cut [6] (fun s6 wx=>∃nb g,s6= .pointer (some ⟨nb,0,none⟩)∧X2.heap.size≤nb∧X2.heap.size≤g∧g≠nb∧Row oV wx nb 37 [osl g 3 3,on,on]∧ClsR wx g∧Below X2.heap.size X2 wx)
 ·refine region_headsT (S:=fun X=>Below X2.heap.size X2 X) 9 rfl (by kernel_rfl) (Below.refl _ _).drew fun hS=> ?_
  refine tk 0 24 (.agg (clA clOa)) hS ?_ rfl (yieldsIf_load (f:=oV) (l:=clL clOa) aggCl (.tmp 4) rfl ns4 0 rfl (fun W' h=>(s4.below h s4.lt).at) rfl rfl)
  refine tk 1 25 (.agg (clA clOb)) hS ?_ rfl (yieldsIf_load (f:=oV) (l:=clL clOb) aggCl (.tmp 5) rfl ns5 0 rfl (fun W' h=>(s5.below h s5.lt).at) rfl rfl)
  refine tk 4 28 (.agg (clA clOa)) hS ?_ rfl (yieldsIf_load (f:=oV) (l:=clL clOa) aggCl (.tmp 4) rfl ns4 0 rfl (fun W' h=>(s4.below h s4.lt).at) rfl rfl)
  refine tk 5 29 (.agg (clA clOb)) hS ?_ rfl (yieldsIf_load (f:=oV) (l:=clL clOb) aggCl (.tmp 5) rfl ns5 0 rfl (fun W' h=>(s5.below h s5.lt).at) rfl rfl)
  refine headsT_ready (rs:=[2,8]) (by kernel_rfl) (by simp) (AllReadyT.cons (by omega) rfl (fun K' hK=> ?_) (AllReadyT.cons (by omega) rfl (fun K' hK=> ?_) AllReadyT.nil))
  ·refine cD 26 40 #[.agg (clA clOa), .agg (clA clOb)] ?_
   refine (rUnion _ clOa clOb).mono ?_
   rintro e A1 ⟨rfl,hBx⟩
   replace hS:=hS.trans (hBx.mono hS.size)
   refine ⟨_,rfl,hK.out _ _ hS fun _=> ?_⟩
   clear hK
   simp only [sA,sB,sC]
   refine headsT_ready (rs:=[3,8]) (by kernel_rfl) (by simp) (AllReadyT.cons (by omega) rfl (fun K' hK=> ?_) (AllReadyT.cons (by omega) rfl (fun K' hK=> ?_) AllReadyT.nil))
   ·refine cD 27 39 #[.agg (clA (clOa.union clOb))] ?_
    refine (rNot _ (clOa.union clOb)).mono ?_
    rintro e A2 ⟨rfl,hBx⟩
    rw [compl_o]
    replace hS:=hS.trans (hBx.mono hS.size)
    refine ⟨_,rfl,hK.out _ _ hS fun _=> ?_⟩
    clear hK
    simp only [sA,sB,sC]
    refine headsT_ready (rs:=[6,8]) (by kernel_rfl) (by simp) (AllReadyT.cons (by omega) rfl (fun K' hK=> ?_) (AllReadyT.cons (by omega) rfl (fun K' hK=> ?_) AllReadyT.nil))
    ·have hBx:=below_al (Below.refl A2.heap.size A2) (Nat.le_refl _) (.cells #[.int .u64 (X clOo.a), .int .u64 (X clOo.b), .int .u64 (X clOo.c), .int .u64 (X clOo.d), .int .u64 (X clOa.a), .int .u64 (X clOa.b), .int .u64 (X clOa.c), .int .u64 (X clOa.d), .int .u64 (X clOb.a), .int .u64 (X clOb.b), .int .u64 (X clOb.c), .int .u64 (X clOb.d)] 65)
     have hR:ClsR (A2.alloc (.cells #[.int .u64 (X clOo.a), .int .u64 (X clOo.b), .int .u64 (X clOo.c), .int .u64 (X clOo.d), .int .u64 (X clOa.a), .int .u64 (X clOa.b), .int .u64 (X clOa.c), .int .u64 (X clOa.d), .int .u64 (X clOb.a), .int .u64 (X clOb.b), .int .u64 (X clOb.c), .int .u64 (X clOb.d)] 65)) A2.heap.size:=Row.new A2 (.cells #[.int .u64 (X clOo.a), .int .u64 (X clOo.b), .int .u64 (X clOo.c), .int .u64 (X clOo.d), .int .u64 (X clOa.a), .int .u64 (X clOa.b), .int .u64 (X clOa.c), .int .u64 (X clOa.d), .int .u64 (X clOb.a), .int .u64 (X clOb.b), .int .u64 (X clOb.c), .int .u64 (X clOb.d)] 65) rfl
     refine valueD (d:=30) (v:= .slice (some ⟨A2.heap.size,0,none⟩) 3 3) (w':=A2.alloc (.cells #[.int .u64 (X clOo.a), .int .u64 (X clOo.b), .int .u64 (X clOo.c), .int .u64 (X clOo.d), .int .u64 (X clOa.a), .int .u64 (X clOa.b), .int .u64 (X clOa.c), .int .u64 (X clOa.d), .int .u64 (X clOb.a), .int .u64 (X clOb.b), .int .u64 (X clOb.c), .int .u64 (X clOb.d)] 65)) rfl rfl (by first | rfl | kernel_rfl | (simp [execOp,go_sem];done)) ?_
     have hg6:X2.heap.size≤A2.heap.size:=hS.size
     generalize (A2.alloc (.cells #[.int .u64 (X clOo.a), .int .u64 (X clOo.b), .int .u64 (X clOo.c), .int .u64 (X clOo.d), .int .u64 (X clOa.a), .int .u64 (X clOa.b), .int .u64 (X clOa.c), .int .u64 (X clOa.d), .int .u64 (X clOb.a), .int .u64 (X clOb.b), .int .u64 (X clOb.c), .int .u64 (X clOb.d)] 65))=A3 at *
     have hgl:A2.heap.size<A3.heap.size:=hR.lt
     replace hS:=hS.trans (hBx.mono hS.size)
     refine hK.out _ _ hS fun _=> ?_
     clear hK
     simp only [sA,sB,sC]
     refine tk 7 31 (.agg #[.slice (some ⟨A2.heap.size,0,none⟩) 3 3, .slice none 0 0, .slice none 0 0]) hS ?_
     refine rdT 8 (fun K' hK=> ?_)
     ·have hBx:=below_al (Below.refl A3.heap.size A3) (Nat.le_refl _) (.cells #[.slice none 0 0, .slice none 0 0, .slice none 0 0] 37)
      have hz:Row oV (A3.alloc (.cells #[.slice none 0 0, .slice none 0 0, .slice none 0 0] 37)) A3.heap.size 37 [on,on,on]:=Row.new _ _ rfl
      refine aD 6 (.cells #[.slice none 0 0, .slice none 0 0, .slice none 0 0] 37) ?_
      have hn6:X2.heap.size≤A3.heap.size:=hS.size
      have hgn:A2.heap.size≠A3.heap.size:=fun e=>by have:=hgl;omega
      generalize (A3.alloc (.cells #[.slice none 0 0, .slice none 0 0, .slice none 0 0] 37))=A4 at *
      replace hR:=hR.below hBx hR.lt
      replace hgl:=Nat.lt_of_lt_of_le hgl hBx.size
      replace hS:=hS.trans (hBx.mono hS.size)
      refine hK.out _ _ hS fun _=> ?_
      clear hK
      simp only [sA,sB,sC]
      refine headsT_tail (by kernel_rfl) ?_
      simp only [List.drop]
      go_wp2_with (((with_reducible refine zS (l':=[osl A2.heap.size 3 3,on,on]) hz aggNorm ?_);(intro Y hsY hGY hzY)))
      go_meet
      exact ⟨A3.heap.size,A2.heap.size,rfl,hn6,hg6,hgn,hsY,hR.grown hGY (fun e=>by injection e with e;exact hgn e),hS.grown hGY hS.size (fun j e=>by cases e;exact hn6)⟩
    ·have hBx:=below_al (Below.refl A2.heap.size A2) (Nat.le_refl _) (.cells #[.slice none 0 0, .slice none 0 0, .slice none 0 0] 37)
     have hz:Row oV (A2.alloc (.cells #[.slice none 0 0, .slice none 0 0, .slice none 0 0] 37)) A2.heap.size 37 [on,on,on]:=Row.new _ _ rfl
     refine aD 6 (.cells #[.slice none 0 0, .slice none 0 0, .slice none 0 0] 37) ?_
     have hn6:X2.heap.size≤A2.heap.size:=hS.size
     generalize (A2.alloc (.cells #[.slice none 0 0, .slice none 0 0, .slice none 0 0] 37))=A5 at *
     replace hS:=hS.trans (hBx.mono hS.size)
     refine hK.out _ _ hS fun _=> ?_
     clear hK
     simp only [sA,sB,sC]
     refine rdT 6 (fun K' hK=> ?_)
     ·have hBx:=below_al (Below.refl A5.heap.size A5) (Nat.le_refl _) (.cells #[.int .u64 (X clOo.a), .int .u64 (X clOo.b), .int .u64 (X clOo.c), .int .u64 (X clOo.d), .int .u64 (X clOa.a), .int .u64 (X clOa.b), .int .u64 (X clOa.c), .int .u64 (X clOa.d), .int .u64 (X clOb.a), .int .u64 (X clOb.b), .int .u64 (X clOb.c), .int .u64 (X clOb.d)] 65)
      have hR:ClsR (A5.alloc (.cells #[.int .u64 (X clOo.a), .int .u64 (X clOo.b), .int .u64 (X clOo.c), .int .u64 (X clOo.d), .int .u64 (X clOa.a), .int .u64 (X clOa.b), .int .u64 (X clOa.c), .int .u64 (X clOa.d), .int .u64 (X clOb.a), .int .u64 (X clOb.b), .int .u64 (X clOb.c), .int .u64 (X clOb.d)] 65)) A5.heap.size:=Row.new A5 (.cells #[.int .u64 (X clOo.a), .int .u64 (X clOo.b), .int .u64 (X clOo.c), .int .u64 (X clOo.d), .int .u64 (X clOa.a), .int .u64 (X clOa.b), .int .u64 (X clOa.c), .int .u64 (X clOa.d), .int .u64 (X clOb.a), .int .u64 (X clOb.b), .int .u64 (X clOb.c), .int .u64 (X clOb.d)] 65) rfl
      refine valueD (d:=30) (v:= .slice (some ⟨A5.heap.size,0,none⟩) 3 3) (w':=A5.alloc (.cells #[.int .u64 (X clOo.a), .int .u64 (X clOo.b), .int .u64 (X clOo.c), .int .u64 (X clOo.d), .int .u64 (X clOa.a), .int .u64 (X clOa.b), .int .u64 (X clOa.c), .int .u64 (X clOa.d), .int .u64 (X clOb.a), .int .u64 (X clOb.b), .int .u64 (X clOb.c), .int .u64 (X clOb.d)] 65)) rfl rfl (by first | rfl | kernel_rfl | (simp [execOp,go_sem];done)) ?_
      have hg6:X2.heap.size≤A5.heap.size:=hS.size
      have hgn:A5.heap.size≠A2.heap.size:=fun e=>by have:=hz.lt;omega
      generalize (A5.alloc (.cells #[.int .u64 (X clOo.a), .int .u64 (X clOo.b), .int .u64 (X clOo.c), .int .u64 (X clOo.d), .int .u64 (X clOa.a), .int .u64 (X clOa.b), .int .u64 (X clOa.c), .int .u64 (X clOa.d), .int .u64 (X clOb.a), .int .u64 (X clOb.b), .int .u64 (X clOb.c), .int .u64 (X clOb.d)] 65))=A6 at *
      replace hz:=hz.below hBx hz.lt
      have hgl:A5.heap.size<A6.heap.size:=hR.lt
      replace hS:=hS.trans (hBx.mono hS.size)
      refine hK.out _ _ hS fun _=> ?_
      clear hK
      simp only [sA,sB,sC]
      refine tk 7 31 (.agg #[.slice (some ⟨A5.heap.size,0,none⟩) 3 3, .slice none 0 0, .slice none 0 0]) hS ?_
      refine headsT_tail (by kernel_rfl) ?_
      simp only [List.drop]
      go_wp2_with (((with_reducible refine zS (l':=[osl A5.heap.size 3 3,on,on]) hz aggNorm ?_);(intro Y hsY hGY hzY)))
      go_meet
      exact ⟨A2.heap.size,A5.heap.size,rfl,hn6,hg6,hgn,hsY,hR.grown hGY (fun e=>by injection e with e;exact hgn e),hS.grown hGY hS.size (fun j e=>by cases e;exact hn6)⟩
   ·have hBx:=below_al (Below.refl A1.heap.size A1) (Nat.le_refl _) (.cells #[.slice none 0 0, .slice none 0 0, .slice none 0 0] 37)
    have hz:Row oV (A1.alloc (.cells #[.slice none 0 0, .slice none 0 0, .slice none 0 0] 37)) A1.heap.size 37 [on,on,on]:=Row.new _ _ rfl
    refine aD 6 (.cells #[.slice none 0 0, .slice none 0 0, .slice none 0 0] 37) ?_
    have hn6:X2.heap.size≤A1.heap.size:=hS.size
    generalize (A1.alloc (.cells #[.slice none 0 0, .slice none 0 0, .slice none 0 0] 37))=A7 at *
    replace hS:=hS.trans (hBx.mono hS.size)
    refine hK.out _ _ hS fun _=> ?_
    clear hK
    simp only [sA,sB,sC]
    refine rdT 3 (fun K' hK=> ?_)
    ·refine cD 27 39 #[.agg (clA (clOa.union clOb))] ?_
     refine (rNot _ (clOa.union clOb)).mono ?_
     rintro e A8 ⟨rfl,hBx⟩
     rw [compl_o]
     replace hz:=hz.below hBx hz.lt
     replace hS:=hS.trans (hBx.mono hS.size)
     refine ⟨_,rfl,hK.out _ _ hS fun _=> ?_⟩
     clear hK
     simp only [sA,sB,sC]
     refine rdT 6 (fun K' hK=> ?_)
     ·have hBx:=below_al (Below.refl A8.heap.size A8) (Nat.le_refl _) (.cells #[.int .u64 (X clOo.a), .int .u64 (X clOo.b), .int .u64 (X clOo.c), .int .u64 (X clOo.d), .int .u64 (X clOa.a), .int .u64 (X clOa.b), .int .u64 (X clOa.c), .int .u64 (X clOa.d), .int .u64 (X clOb.a), .int .u64 (X clOb.b), .int .u64 (X clOb.c), .int .u64 (X clOb.d)] 65)
      have hR:ClsR (A8.alloc (.cells #[.int .u64 (X clOo.a), .int .u64 (X clOo.b), .int .u64 (X clOo.c), .int .u64 (X clOo.d), .int .u64 (X clOa.a), .int .u64 (X clOa.b), .int .u64 (X clOa.c), .int .u64 (X clOa.d), .int .u64 (X clOb.a), .int .u64 (X clOb.b), .int .u64 (X clOb.c), .int .u64 (X clOb.d)] 65)) A8.heap.size:=Row.new A8 (.cells #[.int .u64 (X clOo.a), .int .u64 (X clOo.b), .int .u64 (X clOo.c), .int .u64 (X clOo.d), .int .u64 (X clOa.a), .int .u64 (X clOa.b), .int .u64 (X clOa.c), .int .u64 (X clOa.d), .int .u64 (X clOb.a), .int .u64 (X clOb.b), .int .u64 (X clOb.c), .int .u64 (X clOb.d)] 65) rfl
      refine valueD (d:=30) (v:= .slice (some ⟨A8.heap.size,0,none⟩) 3 3) (w':=A8.alloc (.cells #[.int .u64 (X clOo.a), .int .u64 (X clOo.b), .int .u64 (X clOo.c), .int .u64 (X clOo.d), .int .u64 (X clOa.a), .int .u64 (X clOa.b), .int .u64 (X clOa.c), .int .u64 (X clOa.d), .int .u64 (X clOb.a), .int .u64 (X clOb.b), .int .u64 (X clOb.c), .int .u64 (X clOb.d)] 65)) rfl rfl (by first | rfl | kernel_rfl | (simp [execOp,go_sem];done)) ?_
      have hg6:X2.heap.size≤A8.heap.size:=hS.size
      have hgn:A8.heap.size≠A1.heap.size:=fun e=>by have:=hz.lt;omega
      generalize (A8.alloc (.cells #[.int .u64 (X clOo.a), .int .u64 (X clOo.b), .int .u64 (X clOo.c), .int .u64 (X clOo.d), .int .u64 (X clOa.a), .int .u64 (X clOa.b), .int .u64 (X clOa.c), .int .u64 (X clOa.d), .int .u64 (X clOb.a), .int .u64 (X clOb.b), .int .u64 (X clOb.c), .int .u64 (X clOb.d)] 65))=A9 at *
      replace hz:=hz.below hBx hz.lt
      have hgl:A8.heap.size<A9.heap.size:=hR.lt
      replace hS:=hS.trans (hBx.mono hS.size)
      refine hK.out _ _ hS fun _=> ?_
      clear hK
      simp only [sA,sB,sC]
      refine tk 7 31 (.agg #[.slice (some ⟨A8.heap.size,0,none⟩) 3 3, .slice none 0 0, .slice none 0 0]) hS ?_
      refine headsT_tail (by kernel_rfl) ?_
      simp only [List.drop]
      go_wp2_with (((with_reducible refine zS (l':=[osl A8.heap.size 3 3,on,on]) hz aggNorm ?_);(intro Y hsY hGY hzY)))
      go_meet
      exact ⟨A1.heap.size,A8.heap.size,rfl,hn6,hg6,hgn,hsY,hR.grown hGY (fun e=>by injection e with e;exact hgn e),hS.grown hGY hS.size (fun j e=>by cases e;exact hn6)⟩
  ·have hBx:=below_al (Below.refl X2.drew.heap.size X2.drew) (Nat.le_refl _) (.cells #[.slice none 0 0, .slice none 0 0, .slice none 0 0] 37)
   have hz:Row oV (X2.drew.alloc (.cells #[.slice none 0 0, .slice none 0 0, .slice none 0 0] 37)) X2.drew.heap.size 37 [on,on,on]:=Row.new _ _ rfl
   refine aD 6 (.cells #[.slice none 0 0, .slice none 0 0, .slice none 0 0] 37) ?_
   have hn6:X2.heap.size≤X2.drew.heap.size:=hS.size
   generalize (X2.drew.alloc (.cells #[.slice none 0 0, .slice none 0 0, .slice none 0 0] 37))=A10 at *
   replace hS:=hS.trans (hBx.mono hS.size)
   refine hK.out _ _ hS fun _=> ?_
   clear hK
   simp only [sA,sB,sC]
   refine rdT 2 (fun K' hK=> ?_)
   ·refine cD 26 40 #[.agg (clA clOa), .agg (clA clOb)] ?_
    refine (rUnion _ clOa clOb).mono ?_
    rintro e A11 ⟨rfl,hBx⟩
    replace hz:=hz.below hBx hz.lt
    replace hS:=hS.trans (hBx.mono hS.size)
    refine ⟨_,rfl,hK.out _ _ hS fun _=> ?_⟩
    clear hK
    simp only [sA,sB,sC]
    refine rdT 3 (fun K' hK=> ?_)
    ·refine cD 27 39 #[.agg (clA (clOa.union clOb))] ?_
     refine (rNot _ (clOa.union clOb)).mono ?_
     rintro e A12 ⟨rfl,hBx⟩
     rw [compl_o]
     replace hz:=hz.below hBx hz.lt
     replace hS:=hS.trans (hBx.mono hS.size)
     refine ⟨_,rfl,hK.out _ _ hS fun _=> ?_⟩
     clear hK
     simp only [sA,sB,sC]
     refine rdT 6 (fun K' hK=> ?_)
     ·have hBx:=below_al (Below.refl A12.heap.size A12) (Nat.le_refl _) (.cells #[.int .u64 (X clOo.a), .int .u64 (X clOo.b), .int .u64 (X clOo.c), .int .u64 (X clOo.d), .int .u64 (X clOa.a), .int .u64 (X clOa.b), .int .u64 (X clOa.c), .int .u64 (X clOa.d), .int .u64 (X clOb.a), .int .u64 (X clOb.b), .int .u64 (X clOb.c), .int .u64 (X clOb.d)] 65)
      have hR:ClsR (A12.alloc (.cells #[.int .u64 (X clOo.a), .int .u64 (X clOo.b), .int .u64 (X clOo.c), .int .u64 (X clOo.d), .int .u64 (X clOa.a), .int .u64 (X clOa.b), .int .u64 (X clOa.c), .int .u64 (X clOa.d), .int .u64 (X clOb.a), .int .u64 (X clOb.b), .int .u64 (X clOb.c), .int .u64 (X clOb.d)] 65)) A12.heap.size:=Row.new A12 (.cells #[.int .u64 (X clOo.a), .int .u64 (X clOo.b), .int .u64 (X clOo.c), .int .u64 (X clOo.d), .int .u64 (X clOa.a), .int .u64 (X clOa.b), .int .u64 (X clOa.c), .int .u64 (X clOa.d), .int .u64 (X clOb.a), .int .u64 (X clOb.b), .int .u64 (X clOb.c), .int .u64 (X clOb.d)] 65) rfl
      refine valueD (d:=30) (v:= .slice (some ⟨A12.heap.size,0,none⟩) 3 3) (w':=A12.alloc (.cells #[.int .u64 (X clOo.a), .int .u64 (X clOo.b), .int .u64 (X clOo.c), .int .u64 (X clOo.d), .int .u64 (X clOa.a), .int .u64 (X clOa.b), .int .u64 (X clOa.c), .int .u64 (X clOa.d), .int .u64 (X clOb.a), .int .u64 (X clOb.b), .int .u64 (X clOb.c), .int .u64 (X clOb.d)] 65)) rfl rfl (by first | rfl | kernel_rfl | (simp [execOp,go_sem];done)) ?_
      have hg6:X2.heap.size≤A12.heap.size:=hS.size
      have hgn:A12.heap.size≠X2.drew.heap.size:=fun e=>by have:=hz.lt;omega
      generalize (A12.alloc (.cells #[.int .u64 (X clOo.a), .int .u64 (X clOo.b), .int .u64 (X clOo.c), .int .u64 (X clOo.d), .int .u64 (X clOa.a), .int .u64 (X clOa.b), .int .u64 (X clOa.c), .int .u64 (X clOa.d), .int .u64 (X clOb.a), .int .u64 (X clOb.b), .int .u64 (X clOb.c), .int .u64 (X clOb.d)] 65))=A13 at *
      replace hz:=hz.below hBx hz.lt
      have hgl:A12.heap.size<A13.heap.size:=hR.lt
      replace hS:=hS.trans (hBx.mono hS.size)
      refine hK.out _ _ hS fun _=> ?_
      clear hK
      simp only [sA,sB,sC]
      refine tk 7 31 (.agg #[.slice (some ⟨A12.heap.size,0,none⟩) 3 3, .slice none 0 0, .slice none 0 0]) hS ?_
      refine headsT_tail (by kernel_rfl) ?_
      simp only [List.drop]
      go_wp2_with (((with_reducible refine zS (l':=[osl A12.heap.size 3 3,on,on]) hz aggNorm ?_);(intro Y hsY hGY hzY)))
      go_meet
      exact ⟨X2.drew.heap.size,A12.heap.size,rfl,hn6,hg6,hgn,hsY,hR.grown hGY (fun e=>by injection e with e;exact hgn e),hS.grown hGY hS.size (fun j e=>by cases e;exact hn6)⟩
 obtain ⟨nb,g,rfl,hnb,hg,hgn,hrow,hR,hb⟩:=hcut
 have hlr:w.heap.size<X2.heap.size:=r0.lt
 have HI:Hid (∀i (h:i<l.length),∃b o,p=some ⟨b,o,none⟩∧∀X,Below X2.heap.size X2 X→X.cell? ⟨b,o+i,none⟩=some (.int .u8 (l[i].toNat:Int))):=Lib.hid fun i hi=>by
  rcases HV.out with ⟨_,_,e0⟩ | ⟨b,o,cap,he,hc,hat,hbl⟩
  ·rw [e0] at hi;simp at hi
  ·cases he
   refine ⟨b,o,rfl,fun X hX=> ?_⟩
   rw [hX.cell (p:=⟨b,o+i,none⟩) (by show b<X2.heap.size;omega),hB.cell (p:=⟨b,o+i,none⟩) hbl,hat i hi,List.getElem?_eq_getElem hi]
   rfl
 obtain ⟨B,hBdef⟩:∃B,B=wc.heap.size:=⟨_,rfl⟩
 have HM0:MI X2 wc l B nb g 0 0 none none 0 0 []:=by
  subst hBdef
  have hgl:g<wc.heap.size:=hR.lt
  exact ⟨hrow,hR,Own.nil _ _ _,rfl,fun i hi=>by simp at hi,Own.nil _ _ _,fun i j hi=>by simp at hi,hb,hnb,hrow.lt,hgl,hgn,Nat.le_refl _⟩
 have HR0:=Lib.hid r0
 have HB0:=Lib.hid hB
 clear r0 s4 s5 hB hls4 hls5 hrow hR hb hnb hgn hBdef HV
 replace HM0:=Lib.hid HM0
 have HG:=Lib.hid hg
 clear hg
 go_upto_region 7 with (fail)
 go_upto_region 8 with (fail)
 go_loopw [7,8,9,10] (fun s7 s8 s9 s10 wr=>∃(s:Nat) (pr pe:Option Addr) (kr ke:Nat) (us:List OC),s≤sn∧s7= .int .i64 s∧Hid (MI X2 wr l B nb g s s pr pe kr ke us)) (fun i _ _ _ _=>sn - (intOf i).toNat)
 case atStart=>exact ⟨0,none,none,0,0,[],by omega,rfl,HM0⟩
 case round=>
  obtain ⟨s,pr,pe,kr,ke,us,hsl,rfl,HM⟩:=hrel
  by_cases hlt:s<sn
  ·have hq:(s:Int)<(sn:Int):=by omega
   go_upto_region 12 with (fail)
   have hO0:OwnK 3 ceL (wr.alloc (.cells #[] 61)) wr.heap.size 61 (.slice (some ⟨wr.heap.size,0,none⟩) 0 0) (mkRow l s 0):=OwnK.new0 wr wr.heap.size 61 (Nat.le_refl _)
   have hb0:=below_al (Below.refl wr.heap.size wr) (Nat.le_refl _) (.cells #[] 61)
   generalize (wr.alloc (.cells #[] 61))=wA at *
   go_loopw [8,9,10] (fun s8 s9 s10 wq=>∃(k:Nat) (p8:Option Addr) (c8:Nat),k≤3∧s9= .int .i64 k∧s8= .slice p8 k c8∧OwnK 3 ceL wq wr.heap.size 61 (.slice p8 k c8) (mkRow l s k)∧Below wr.heap.size wr wq) (fun _ i _ _=>3 - (intOf i).toNat)
   case atStart=>exact ⟨0,_,0,by omega,rfl,rfl,hO0,hb0⟩
   case round=>
    clear hO0 hb0
    obtain ⟨k,p8,c8,hk3,rfl,rfl,hO,hb2⟩:=hrel
    by_cases hkt:k<3
    ·have hq2:(k:Int)<3:=by omega
     obtain ⟨m,hm⟩:∃m:Nat,m=1+4 * s+k:=⟨_,rfl⟩
     have a5:1+4 * (s:Int)+(k:Int)=(m:Int):=by omega
     replace hm:=Lib.hid hm
     have HMR:=Lib.hid (mkRow_succ l s k)
     have hms:Hid (mkStates l=sn):=Lib.hid hsn
     by_cases hin:m<l.length
     ·have hq3:(m:Int)<(l.length:Int):=by omega
      have hx:Hid (mkX l s k=(l[m]'hin).toNat):=Lib.hid (by unfold mkX;rw [← hm.out,if_pos hin,List.getElem?_eq_getElem hin];rfl)
      obtain ⟨b,o,rfl,hcl⟩:=HI.out m hin
      have hc:=hcl _ (HM.out.mono hb2).below
      clear hcl
      have hyl:(l[m]'hin).toNat<256:=(l[m]'hin).toNat_lt
      generalize (l[m]'hin).toNat=y at *
      have hw2:wrap64 (y:Int)=(y:Int):=by unfold wrap64;omega
      go_wp2_with fail
      clear hc
      refine (rCell _ y sn hyl hst).mono ?_
      rintro e w5 ⟨rfl,hb5⟩
      replace hO:=hO.below' hb5
      have hb6:=hb2.trans (hb5.mono hb2.size)
      clear hb5 hb2
      have hln:=mkRow_length l s k
      have hr:Hid (mkRow l s k++[mkCell y sn]=mkRow l s (k+1)):=Lib.hid (by rw [HMR.out,hx.out,hms.out])
      replace hO:=Lib.hid hO
      go_wp2_with (at_builtin;(with_reducible refine append_k eltCe (by decide) ceL_len (.tmp 59) (.tmp 63) ?_ ?_ ?_ hO.out (mkCell y sn) (ceA (mkCell y sn)) ?_ 61 ?_ ?_ ?_ ?_ (mkRow l s (k+1)) ?_ ?_);rfl;rfl;rfl;rfl;rfl;(rw [mkRow_length];omega);(rw [mkRow_length];omega);(exact hb6.size);(exact hr.out);(intro p9 c9 w6 hO6 hB6 hG6))
      go_roundw
      case rel=>exact ⟨k+1,p9,c9,by omega,by go_num,by rw [mkRow_length],by rw [mkRow_length] at hO6;exact hO6,hb6.trans hB6⟩
      case measure=>simp [intOf]<;>omega
     ·have hq3:¬(m:Int)<(l.length:Int):=by omega
      have hx:Hid (mkX l s k=0):=Lib.hid (by unfold mkX;rw [← hm.out,if_neg hin])
      go_wp2_with fail
      refine (rCell _ 0 sn (by omega) hst).mono ?_
      rintro e w5 ⟨rfl,hb5⟩
      replace hO:=hO.below' hb5
      have hb6:=hb2.trans (hb5.mono hb2.size)
      clear hb5 hb2
      have hln:=mkRow_length l s k
      have hr:Hid (mkRow l s k++[mkCell 0 sn]=mkRow l s (k+1)):=Lib.hid (by rw [HMR.out,hx.out,hms.out])
      replace hO:=Lib.hid hO
      go_wp2_with (at_builtin;(with_reducible refine append_k eltCe (by decide) ceL_len (.tmp 59) (.tmp 63) ?_ ?_ ?_ hO.out (mkCell 0 sn) (ceA (mkCell 0 sn)) ?_ 61 ?_ ?_ ?_ ?_ (mkRow l s (k+1)) ?_ ?_);rfl;rfl;rfl;rfl;rfl;(rw [mkRow_length];omega);(rw [mkRow_length];omega);(exact hb6.size);(exact hr.out);(intro p9 c9 w6 hO6 hB6 hG6))
      go_roundw
      case rel=>exact ⟨k+1,p9,c9,by omega,by go_num,by rw [mkRow_length],by rw [mkRow_length] at hO6;exact hO6,hb6.trans hB6⟩
      case measure=>simp [intOf]<;>omega
    ·obtain rfl:k=3:=by omega
     have hM3:=HM.out.mono hb2
     have hO3:=hO.mono (HM.out.lo.2.2.2.2)
     have hlo:nb<B∧B≤wr.heap.size:=⟨hM3.lo.2.1,hM3.lo.2.2.2.2⟩
     have c1:wr.cell? ⟨nb,1,none⟩=some (.slice pr s kr):=by rw [hM3.row.cell?];rfl
     have f1:=hM3.row.frozen 1
     have hus:=hM3.len
     have hlen:(us++[slO p8 3 c8]).length=s+1:=by rw [List.length_append,hus];rfl
     have HM3:=Lib.hid hM3
     have HLN:=Lib.hid hlen
     have HUS:=Lib.hid hus
     have HD:Hid (∀i (hi:i<us.length) k,(oV us[i]).ownBlock=some k→(oV (slO p8 3 c8)).ownBlock≠some k):=Lib.hid fun i hi k hk e=>by
      have h1:=((HM.out.each i hi).lt k hk).2
      have h2:=(hO.lt k e).1
      omega
     clear hM3 hlen hus hO hb2 HM
     rw [show ((3:Nat):Int)=3 from rfl]
     go_upto_region 19 with (at_builtin;(with_reducible refine append_one eltRow (.tmp 66) (.tmp 68) ?_ ?_ oV_one ?_ HM3.out.own (slO p8 3 c8) _ ?_ _ ?_ ?_ ?_ ?_ (us++[slO p8 3 c8]) ?_ ?_);rfl;rfl;rfl;rfl;rfl;(rw [HUS.out];omega);(rw [HUS.out];omega);(exact hlo.2);rfl;(intro p3 c3 w3 hO4 hB4 hG4);(rw [HLN.out] at hO4 ⊢);(have e9:=(hB4.cell (p:=⟨nb,1,none⟩) hlo.1).trans c1);(have f9:=(hB4.frozen (p:=⟨nb,1,none⟩) hlo.1).trans f1))
     have hM5:=HM3.out.cells (slO p8 3 c8) hO3 _ HD.out hO4 hG4
     clear hO4 hB4 hG4 e9 f9 c1 f1 hO3 HM3 HLN HUS
     generalize (w3.setCell ⟨nb,1,none⟩ (.slice p3 (s+1) c3))=W5 at *
     have hM5d:=hM5.mono ((Below.refl W5.heap.size W5).drew)
     obtain ⟨m,hm⟩:∃m:Nat,m=4+4 * s:=⟨_,rfl⟩
     have a5:4+4 * (s:Int)=(m:Int):=by omega
     have hmb:(m:Int)≤100:=by omega
     replace hm:=Lib.hid hm
     by_cases hin:m<l.length
     ·have hq3:(m:Int)<(l.length:Int):=by omega
      have hq4:¬(l.length:Int)≤(m:Int):=by omega
      obtain ⟨b,o,rfl,hcl⟩:=HI.out m hin
      have hee:Hid (mkEnd l s=decide ((l[m]'hin).toNat % 4≠0)):=Lib.hid (by unfold mkEnd;rw [← hm.out,if_pos hin,List.getElem?_eq_getElem hin];rfl)
      have hyl:(l[m]'hin).toNat<256:=(l[m]'hin).toNat_lt
      replace hcl:=Lib.hid hcl
      generalize (l[m]'hin).toNat=y at *
      have z1:(y:Int).tmod 4=((y % 4:Nat):Int):=by rw [Int.tmod_eq_emod_of_nonneg (by omega)];omega
      have z2:(y:Int) % 4=((y % 4:Nat):Int):=by omega
      generalize y % 4=z at *
      replace hee:Hid (mkEnd l s=((z:Int) !=0)):=Lib.hid (by rw [hee.out];by_cases h0:z=0<;>simp [h0])
      refine region_headsT (S:=fun X=>Below X2.heap.size X2 X∧Row oV X nb 37 [osl g 3 3,slO p3 (s+1) c3,slO pe s ke]) 20 rfl (by kernel_rfl) ⟨hM5.below.drew,hM5.row⟩ fun hS=> ?_
      refine tk 0 71 (.pointer (some ⟨nb,2,none⟩)) hS ?_
      refine tk 1 72 (.slice pe s ke) hS ?_ rfl (qi fun W' h=>by have q2:W'.cell? ⟨nb,2,none⟩=some (.slice pe s ke):=(by rw [h.2.cell?];rfl);go_simp)
      refine tk 2 73 (.int .i64 s) hS ?_
      refine tk 3 74 (.int .i64 (4 * (s:Int))) hS ?_ rfl (yo fun w=>by go_simp<;>exact wI' _ (by omega) (by omega))
      refine tk 4 75 (.int .i64 (m:Int)) hS ?_ rfl (yo fun w=>by go_simp<;>exact wI' _ (by omega) (by omega))
      refine tk 5 76 (.slice (some ⟨b,o,none⟩) l.length c) hS ?_
      refine tk 6 77 (.int .i64 (l.length:Int)) hS ?_ rfl (yo fun w=>by go_simp<;>exact wI' _ (by omega) (by omega))
      refine tk 7 78 (.bool false) hS ?_ rfl (yo fun w=>by go_simp<;>exact wI' _ (by omega) (by omega))
      refine tk 8 79 (.bool false) hS ?_
      refine tk 9 80 (.slice (some ⟨b,o,none⟩) l.length c) hS ?_
      refine tk 10 81 (.int .i64 s) hS ?_
      refine tk 11 82 (.int .i64 (4 * (s:Int))) hS ?_ rfl (yo fun w=>by go_simp<;>exact wI' _ (by omega) (by omega))
      refine tk 12 83 (.int .i64 (m:Int)) hS ?_ rfl (yo fun w=>by go_simp<;>exact wI' _ (by omega) (by omega))
      refine tk 13 84 (.pointer (some ⟨b,o+m,none⟩)) hS ?_ rfl (yo fun w=>by go_simp<;>exact wI' _ (by omega) (by omega))
      refine tk 14 85 (.int .u8 (y:Int)) hS ?_ rfl (qi fun W' h=>by have q2:=hcl.out W' h.1;go_simp)
      refine tk 15 86 (.int .u8 (z:Int)) hS ?_ rfl (yo fun w=>by go_simp<;>exact wI' _ (by omega) (by omega))
      refine tk 16 87 (.bool ((z:Int) !=0)) hS ?_ rfl (yo fun w=>by go_simp<;>exact wI' _ (by omega) (by omega))
      refine tk 17 88 (.bool ((z:Int) !=0)) hS ?_
      refine rdT 18 (fun K' hK=> ?_)
      have hba:=below_al (Below.refl W5.drew.heap.size W5.drew) (Nat.le_refl _) (.cells #[.bool ((z:Int) !=0)] 4)
      refine valueD (d:=89) (v:= .slice (some ⟨W5.drew.heap.size,0,none⟩) 1 1) (w':=W5.drew.alloc (.cells #[.bool ((z:Int) !=0)] 4)) rfl rfl (by first | rfl | kernel_rfl | (simp [execOp,go_sem];done)) ?_
      refine hK.out _ _ (And.intro (hS.1.trans (hba.mono hS.1.size)) (hS.2.below hba hS.2.lt)) fun _=> ?_
      clear hK hba
      simp only [sA,sB,sC]
      refine rdT 19 (fun K' hK=> ?_)
      refine step_append_one (w:=W5.drew) (l:=mkEnds l s) (v:= .slice pe s ke) eltBo (.tmp 72) (.tmp 89) 35 rfl rfl rfl bV_one' rfl hM5d.ends ((z:Int) !=0) (.bool ((z:Int) !=0)) rfl 4 rfl (by rw [mkEnds_length];omega) (by rw [mkEnds_length];omega) hM5d.lo.2.2.2.2 (mkEnds l (s+1)) (by rw [mkEnds_succ,hee.out]) ?_
      intro p6 k6 w6 hO6 hG6 _
      rw [mkEnds_length] at hO6
      have hF:=hM5d.flags _ hO6 hG6
      refine hK.out _ _ (And.intro hF.1.2 hF.1.1) fun _=> ?_
      clear hK hS
      simp only [Act.put,mkEnds_length,List.setIfInBounds_toArray,List.set_cons_succ,List.set_cons_zero]
      refine headsT_tail (by kernel_rfl) ?_
      simp only [List.drop]
      have f2:=hF.1.1.frozen 2
      have g2:w6.cell? ⟨nb,2,none⟩=some (.slice pe s ke):=by rw [hF.1.1.cell?];rfl
      have HF:=Lib.hid hF.2
      clear hF hO6 hG6 hM5 hM5d
      go_wp2_with fail
      go_roundw
      case rel=>exact ⟨s+1,p3,p6,c3,k6,us++[slO p8 3 c8],by omega,by go_num,HF⟩
      case measure=>simp [intOf]<;>omega
     ·have hq3:¬(m:Int)<(l.length:Int):=by omega
      have hq4:(l.length:Int)≤(m:Int):=by omega
      have hee:Hid (mkEnd l s=true):=Lib.hid (by unfold mkEnd;rw [← hm.out,if_neg hin])
      refine region_headsT (S:=fun X=>Below X2.heap.size X2 X∧Row oV X nb 37 [osl g 3 3,slO p3 (s+1) c3,slO pe s ke]) 20 rfl (by kernel_rfl) ⟨hM5.below.drew,hM5.row⟩ fun hS=> ?_
      refine tk 0 71 (.pointer (some ⟨nb,2,none⟩)) hS ?_
      refine tk 1 72 (.slice pe s ke) hS ?_ rfl (qi fun W' h=>by have q2:W'.cell? ⟨nb,2,none⟩=some (.slice pe s ke):=(by rw [h.2.cell?];rfl);go_simp)
      refine tk 2 73 (.int .i64 s) hS ?_
      refine tk 3 74 (.int .i64 (4 * (s:Int))) hS ?_ rfl (yo fun w=>by go_simp<;>exact wI' _ (by omega) (by omega))
      refine tk 4 75 (.int .i64 (m:Int)) hS ?_ rfl (yo fun w=>by go_simp<;>exact wI' _ (by omega) (by omega))
      refine tk 5 76 (.slice p l.length c) hS ?_
      refine tk 6 77 (.int .i64 (l.length:Int)) hS ?_ rfl (yo fun w=>by go_simp<;>exact wI' _ (by omega) (by omega))
      refine tk 7 78 (.bool true) hS ?_ rfl (yo fun w=>by go_simp<;>exact wI' _ (by omega) (by omega))
      refine tk 8 79 (.bool true) hS ?_
      refine tks 9 80 undef hS ?_
      refine tks 10 81 undef hS ?_
      refine tks 11 82 undef hS ?_
      refine tks 12 83 undef hS ?_
      refine tks 13 84 undef hS ?_
      refine tks 14 85 undef hS ?_
      refine tks 15 86 undef hS ?_
      refine tks 16 87 undef hS ?_
      refine tk 17 88 (.bool true) hS ?_
      refine rdT 18 (fun K' hK=> ?_)
      have hba:=below_al (Below.refl W5.drew.heap.size W5.drew) (Nat.le_refl _) (.cells #[.bool true] 4)
      refine valueD (d:=89) (v:= .slice (some ⟨W5.drew.heap.size,0,none⟩) 1 1) (w':=W5.drew.alloc (.cells #[.bool true] 4)) rfl rfl (by first | rfl | kernel_rfl | (simp [execOp,go_sem];done)) ?_
      refine hK.out _ _ (And.intro (hS.1.trans (hba.mono hS.1.size)) (hS.2.below hba hS.2.lt)) fun _=> ?_
      clear hK hba
      simp only [sA,sB,sC]
      refine rdT 19 (fun K' hK=> ?_)
      refine step_append_one (w:=W5.drew) (l:=mkEnds l s) (v:= .slice pe s ke) eltBo (.tmp 72) (.tmp 89) 35 rfl rfl rfl bV_one' rfl hM5d.ends true (.bool true) rfl 4 rfl (by rw [mkEnds_length];omega) (by rw [mkEnds_length];omega) hM5d.lo.2.2.2.2 (mkEnds l (s+1)) (by rw [mkEnds_succ,hee.out]) ?_
      intro p6 k6 w6 hO6 hG6 _
      rw [mkEnds_length] at hO6
      have hF:=hM5d.flags _ hO6 hG6
      refine hK.out _ _ (And.intro hF.1.2 hF.1.1) fun _=> ?_
      clear hK hS
      simp only [Act.put,mkEnds_length,List.setIfInBounds_toArray,List.set_cons_succ,List.set_cons_zero]
      refine headsT_tail (by kernel_rfl) ?_
      simp only [List.drop]
      have f2:=hF.1.1.frozen 2
      have g2:w6.cell? ⟨nb,2,none⟩=some (.slice pe s ke):=by rw [hF.1.1.cell?];rfl
      have HF:=Lib.hid hF.2
      clear hF hO6 hG6 hM5 hM5d
      go_wp2_with fail
      go_roundw
      case rel=>exact ⟨s+1,p3,p6,c3,k6,us++[slO p8 3 c8],by omega,by go_num,HF⟩
      case measure=>simp [intOf]<;>omega
  ·obtain rfl:s=sn:=by omega
   have hM:=HM.out
   have hwB:w.heap.size<B:=by have:=hM.lo.1;have:=hM.lo.2.1;omega
   have hr0:=HR0.out.below hM.below hlr
   have hBf:=HB0.out.trans (hM.below.mono (by omega))
   have hrow:=hM.row
   go_wp2_with (first
    | ((with_reducible refine zL hrow.at aggNorm rfl (C:=#[.slice (some ⟨g,0,none⟩) 3 3, .slice pr s kr, .slice pe s ke]) ?_))
    | ((with_reducible refine zS (l':=[osl g 3 3,slO pr s kr,slO pe s ke]) hr0 aggNorm ?_);(intro Y hsY hGY hzY)))
   refine bodyPost_ret (v:= .agg #[.slice (some ⟨g,0,none⟩) 3 3, .slice pr s kr, .slice pe s ke]) (results_agg (f:=oV) (l:=[osl g 3 3,slO pr s kr,slO pe s ke]) rfl _ aggNorm w.heap.size 0 rfl hsY.at) rfl ?_
   rw [hsn]
   exact ⟨B,g,nb,pr,pe,kr,ke,us,X2,_,rfl,hM,hBf,hr0,HR0.out.lt,Nat.lt_of_lt_of_le HR0.out.lt HG.out,hGY⟩
end Go.Proofs.YtncnfncglacheaaGreatDoor
