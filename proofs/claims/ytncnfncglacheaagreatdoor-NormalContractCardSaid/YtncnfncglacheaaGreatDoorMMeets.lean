/- Part of a proof. -/
import Derived.Test.YtncnfncglacheaaGreatDoorMEvAll
set_option linter.all false
set_option maxRecDepth 100000
set_option maxHeartbeats 64000000
namespace Go.Proofs.YtncnfncglacheaaGreatDoor
section
open Go Go.RowKit Go.Shelf Mem
attribute [local go_sem] Yb
def NZ.kept (N:NZ) (x:Sc.Wd):Bool:=N.acc x && (x==N.sI x)
end
section
open Go.RowKit Mem
theorem sH:bR Tryz.prog 37 3:=⟨fun _=>by kernel_rfl,fun _=>by kernel_rfl⟩
theorem nZ.row {α:Type} {K:Nat} {enc:α→List OC} {w:World} {b:Nat} {t:TypeId} {l:List α} {cs:List OC} (h:Row oV w b t cs) (hc:l.flatMap enc=cs) (hk:∀x∈l,(enc x).length=K):nZ K enc w (.slice (some ⟨b,0,none⟩) l.length l.length) l:=by
 refine .inr ⟨b,0,l.length,rfl,af _,fun i hi=> ?_,h.lt⟩;subst hc;intro j hj;rw [h.cell?];congr 1
 have:∀(l:List α) (hk:∀x∈l,(enc x).length=K) (i:Nat) (hi:i<l.length) (j:Nat),j<(enc l[i]).length→(l.flatMap enc)[i * K+j]?=(enc l[i])[j]?:=by
  intro l
  induction l with
  | nil=>intro _ i hi;simp at hi
  | cons a l ih=>
   intro hk i hi j hj;rw [Lg];cases i with
   | zero=>
    simp only [TT,oq,List.getElem_cons_zero] at hj ⊢;rw [Jl hj]
   | succ i=>
    simp only [List.getElem_cons_succ] at hj ⊢;have ha:(enc a).length=K:=hk a (E8 ..);rw [JV (by rw [ha,NP];omega),ha];rw [show (i+1) * K+j - K=i * K+j by rw [NP];omega];exact ih (fun x hx=>hk x (JF _ hx)) i (by simpa using hi) j hj
 rw [oq];exact this l hk i hi j hj
end
section
open Go Go.RowKit Mem
def ou (n:Int):OC:=⟨.int .u8 n,rfl⟩
theorem Z9 (w:World) (k n:Nat) (hk:k<256) (hn:1≤n∧n≤4):Calls Tryz.prog 41 #[.int .i64 k, .int .i64 n] w fun e w'=>e= .returned (.agg (Dp (jm k n)))∧Below w.heap.size w w':=by
 have d1:(k:Int).tdiv 8=((k / 8:Nat):Int):=by rw [WK (by omega)];omega
 have d1':(k:Int) / 8=((k / 8:Nat):Int):=by omega
 have d2:((k / 8:Nat):Int).tmod (n:Int)=((k / 8 % n:Nat):Int):=by rw [Lp (by omega)];omega
 have d2':((k / 8:Nat):Int) % (n:Int)=((k / 8 % n:Nat):Int):=by omega
 have hn0:¬(n:Int)=0:=by omega
 have hn1:(n:Int)≠0:=hn0;obtain ⟨r,hr8,hr⟩:∃r,r<8∧k % 8=r:=⟨k % 8,Qv _ (by omega),rfl⟩
 have hmk:Hid (jm k n=⟨((k / 8 % n:Nat):Int),Ef r,Zf r⟩):=Lib.hid (by unfold jm;rw [hr]);have d3:(k:Int).tmod 8=(r:Int):=by rw [Lp (by omega)];omega
 have d4:(k:Int) % 8=(r:Int):=by omega
 generalize hq1:k / 8=q1 at *;generalize hq2:q1 % n=q2 at *;clear hr hq1 hq2;go_enter Tryz.func41,Tryz.ntmps41;go_upto_region 1 with (fail)
 obtain ⟨W,hW,hB,hs,r0⟩:∃W,(w.alloc (.cells #[.int .i64 0, .int .i64 0, .int .u8 0] 61))=W∧Below w.heap.size w W∧w.heap.size+1≤W.heap.size∧Row oV W w.heap.size 61 [oi 0,oi 0,ou 0]:=
  ⟨_,rfl,ah (ak _ _) (af _) _,by simp,Row.new _ _ rfl⟩
 rw [hW];clear hW;have hz:Row oV (W.alloc (.cells #[.int .i64 0, .int .i64 0, .int .u8 0] 61)) W.heap.size 61 [oi 0,oi 0,ou 0]:=Row.new _ _ rfl;go_upto_region 2 with (((with_reducible refine zS (l':=[oi q2,oi 0,ou 0]) hz eu ?_);(intro W1 hs1 hG1 hz1)));have hb1:=jT (ak W.heap.size W) hG1;replace r0:=r0.below hb1 r0.lt;replace hB:=hB.trans (hb1.mono hB.size);generalize hcb:W.heap.size=cb at *;have afh:w.heap.size+1≤cb:=hs;clear hs hz hG1 hz1 hb1 hcb W d1 d1' d2 d2' hn0 hn1;have f1:=hs1.frozen 1;have f2:=hs1.frozen 2;have hl:=hs1.lt;have hc1:W1.cell? ⟨cb,1,none⟩=some (.int .i64 0):=by rw [hs1.cell?];rfl
 have hc2:W1.cell? ⟨cb,2,none⟩=some (.int .u8 0):=by rw [hs1.cell?];rfl
 rcases (by omega:r=0∨r=1∨r=2∨r=3∨r=4∨r=5∨r=6∨r=7) with rfl | rfl | rfl | rfl | rfl | rfl | rfl | rfl
 ·have hrow:Row oV W1 cb 61 [oi q2,oi 0,ou 0]:=hs1;have hr0:Row oV W1 w.heap.size 61 [oi 0,oi 0,ou 0]:=r0;have hbl:Below w.heap.size w W1:=hB
  go_wp2_with (first
   | ((with_reducible refine zL hrow.at eu rfl (C:=#[.int .i64 q2, .int .i64 0, .int .u8 0]) ?_))
   | ((with_reducible refine zS (l':=[oi q2,oi 0,ou 0]) hr0 eu ?_);(intro W6 hs6 di fO)))
  refine bodyPost_ret (aQ (f:=oV) (l:=[oi q2,oi 0,ou 0]) rfl _ eu w.heap.size 0 rfl hs6.at) rfl ?_;exact ⟨by rw [hmk.out];rfl,hbl.grown di hbl.size (fun j e=>by cases e;omega)⟩
 ·have hrow:Row oV W1 cb 61 [oi q2,oi 0,ou 0]:=hs1;have hr0:Row oV W1 w.heap.size 61 [oi 0,oi 0,ou 0]:=r0;have hbl:Below w.heap.size w W1:=hB
  go_wp2_with (first
   | ((with_reducible refine zL hrow.at eu rfl (C:=#[.int .i64 q2, .int .i64 0, .int .u8 0]) ?_))
   | ((with_reducible refine zS (l':=[oi q2,oi 0,ou 0]) hr0 eu ?_);(intro W6 hs6 di fO)))
  refine bodyPost_ret (aQ (f:=oV) (l:=[oi q2,oi 0,ou 0]) rfl _ eu w.heap.size 0 rfl hs6.at) rfl ?_;exact ⟨by rw [hmk.out];rfl,hbl.grown di hbl.size (fun j e=>by cases e;omega)⟩
 ·have hrow:Row oV W1 cb 61 [oi q2,oi 0,ou 0]:=hs1;have hr0:Row oV W1 w.heap.size 61 [oi 0,oi 0,ou 0]:=r0;have hbl:Below w.heap.size w W1:=hB
  go_wp2_with (first
   | ((with_reducible refine zL hrow.at eu rfl (C:=#[.int .i64 q2, .int .i64 0, .int .u8 0]) ?_))
   | ((with_reducible refine zS (l':=[oi q2,oi 0,ou 0]) hr0 eu ?_);(intro W6 hs6 di fO)))
  refine bodyPost_ret (aQ (f:=oV) (l:=[oi q2,oi 0,ou 0]) rfl _ eu w.heap.size 0 rfl hs6.at) rfl ?_;exact ⟨by rw [hmk.out];rfl,hbl.grown di hbl.size (fun j e=>by cases e;omega)⟩
 ·have hrow:Row oV (W1.setCell ⟨cb,1,none⟩ (.int .i64 1)) cb 61 [oi q2,oi 1,ou 0]:=(hs1.set 1 (oi 1))
  have hr0:Row oV (W1.setCell ⟨cb,1,none⟩ (.int .i64 1)) w.heap.size 61 [oi 0,oi 0,ou 0]:=(r0.ai (b':=cb) (by omega) 1 (.int .i64 1))
  have hbl:Below w.heap.size w (W1.setCell ⟨cb,1,none⟩ (.int .i64 1)):=(aM hB (b:=cb) 1 (by omega) (.int .i64 1))
  go_wp2_with (first
   | ((with_reducible refine zL hrow.at eu rfl (C:=#[.int .i64 q2, .int .i64 1, .int .u8 0]) ?_))
   | ((with_reducible refine zS (l':=[oi q2,oi 1,ou 0]) hr0 eu ?_);(intro W6 hs6 di fO)))
  refine bodyPost_ret (aQ (f:=oV) (l:=[oi q2,oi 1,ou 0]) rfl _ eu w.heap.size 0 rfl hs6.at) rfl ?_;exact ⟨by rw [hmk.out];rfl,hbl.grown di hbl.size (fun j e=>by cases e;omega)⟩
 ·have hrow:Row oV ((W1.setCell ⟨cb,1,none⟩ (.int .i64 2)).setCell ⟨cb,2,none⟩ (.int .u8 97)) cb 61 [oi q2,oi 2,ou 97]:=((hs1.set 1 (oi 2)).set 2 (ou 97))
  have hr0:Row oV ((W1.setCell ⟨cb,1,none⟩ (.int .i64 2)).setCell ⟨cb,2,none⟩ (.int .u8 97)) w.heap.size 61 [oi 0,oi 0,ou 0]:=((r0.ai (b':=cb) (by omega) 1 (.int .i64 2)).ai (b':=cb) (by omega) 2 (.int .u8 97))
  have hbl:Below w.heap.size w ((W1.setCell ⟨cb,1,none⟩ (.int .i64 2)).setCell ⟨cb,2,none⟩ (.int .u8 97)):=(aM (aM hB (b:=cb) 1 (by omega) (.int .i64 2)) (b:=cb) 2 (by omega) (.int .u8 97))
  go_wp2_with (first
   | ((with_reducible refine zL hrow.at eu rfl (C:=#[.int .i64 q2, .int .i64 2, .int .u8 97]) ?_))
   | ((with_reducible refine zS (l':=[oi q2,oi 2,ou 97]) hr0 eu ?_);(intro W6 hs6 di fO)))
  refine bodyPost_ret (aQ (f:=oV) (l:=[oi q2,oi 2,ou 97]) rfl _ eu w.heap.size 0 rfl hs6.at) rfl ?_;exact ⟨by rw [hmk.out];rfl,hbl.grown di hbl.size (fun j e=>by cases e;omega)⟩
 ·have hrow:Row oV ((W1.setCell ⟨cb,1,none⟩ (.int .i64 2)).setCell ⟨cb,2,none⟩ (.int .u8 98)) cb 61 [oi q2,oi 2,ou 98]:=((hs1.set 1 (oi 2)).set 2 (ou 98))
  have hr0:Row oV ((W1.setCell ⟨cb,1,none⟩ (.int .i64 2)).setCell ⟨cb,2,none⟩ (.int .u8 98)) w.heap.size 61 [oi 0,oi 0,ou 0]:=((r0.ai (b':=cb) (by omega) 1 (.int .i64 2)).ai (b':=cb) (by omega) 2 (.int .u8 98))
  have hbl:Below w.heap.size w ((W1.setCell ⟨cb,1,none⟩ (.int .i64 2)).setCell ⟨cb,2,none⟩ (.int .u8 98)):=(aM (aM hB (b:=cb) 1 (by omega) (.int .i64 2)) (b:=cb) 2 (by omega) (.int .u8 98))
  go_wp2_with (first
   | ((with_reducible refine zL hrow.at eu rfl (C:=#[.int .i64 q2, .int .i64 2, .int .u8 98]) ?_))
   | ((with_reducible refine zS (l':=[oi q2,oi 2,ou 98]) hr0 eu ?_);(intro W6 hs6 di fO)))
  refine bodyPost_ret (aQ (f:=oV) (l:=[oi q2,oi 2,ou 98]) rfl _ eu w.heap.size 0 rfl hs6.at) rfl ?_;exact ⟨by rw [hmk.out];rfl,hbl.grown di hbl.size (fun j e=>by cases e;omega)⟩
 ·have hrow:Row oV (W1.setCell ⟨cb,1,none⟩ (.int .i64 3)) cb 61 [oi q2,oi 3,ou 0]:=(hs1.set 1 (oi 3))
  have hr0:Row oV (W1.setCell ⟨cb,1,none⟩ (.int .i64 3)) w.heap.size 61 [oi 0,oi 0,ou 0]:=(r0.ai (b':=cb) (by omega) 1 (.int .i64 3))
  have hbl:Below w.heap.size w (W1.setCell ⟨cb,1,none⟩ (.int .i64 3)):=(aM hB (b:=cb) 1 (by omega) (.int .i64 3))
  go_wp2_with (first
   | ((with_reducible refine zL hrow.at eu rfl (C:=#[.int .i64 q2, .int .i64 3, .int .u8 0]) ?_))
   | ((with_reducible refine zS (l':=[oi q2,oi 3,ou 0]) hr0 eu ?_);(intro W6 hs6 di fO)))
  refine bodyPost_ret (aQ (f:=oV) (l:=[oi q2,oi 3,ou 0]) rfl _ eu w.heap.size 0 rfl hs6.at) rfl ?_;exact ⟨by rw [hmk.out];rfl,hbl.grown di hbl.size (fun j e=>by cases e;omega)⟩
 ·have hrow:Row oV (W1.setCell ⟨cb,1,none⟩ (.int .i64 3)) cb 61 [oi q2,oi 3,ou 0]:=(hs1.set 1 (oi 3))
  have hr0:Row oV (W1.setCell ⟨cb,1,none⟩ (.int .i64 3)) w.heap.size 61 [oi 0,oi 0,ou 0]:=(r0.ai (b':=cb) (by omega) 1 (.int .i64 3))
  have hbl:Below w.heap.size w (W1.setCell ⟨cb,1,none⟩ (.int .i64 3)):=(aM hB (b:=cb) 1 (by omega) (.int .i64 3))
  go_wp2_with (first
   | ((with_reducible refine zL hrow.at eu rfl (C:=#[.int .i64 q2, .int .i64 3, .int .u8 0]) ?_))
   | ((with_reducible refine zS (l':=[oi q2,oi 3,ou 0]) hr0 eu ?_);(intro W6 hs6 di fO)))
  refine bodyPost_ret (aQ (f:=oV) (l:=[oi q2,oi 3,ou 0]) rfl _ eu w.heap.size 0 rfl hs6.at) rfl ?_;exact ⟨by rw [hmk.out];rfl,hbl.grown di hbl.size (fun j e=>by cases e;omega)⟩
theorem aP.cur {α:Type} {K:Nat} {enc:α→List OC} {w:World} {base g c:Nat} {e:TypeId} {x:α} (hk:∀x,(enc x).length=K) (h:aP K enc w base e (.slice (some ⟨g,0,none⟩) 1 c) [x]):
  base≤g∧∃cur,w.heap[g]?=some (.cells cur e (0,0))∧K≤cur.size∧∀w' y,w'.heap[g]?=some (.cells ((enc y).map oV++cur.toList.drop (enc y).length).toArray e (0,0))→aP K enc w' base e (.slice (some ⟨g,0,none⟩) 1 c) [y]:=by
 rcases h.2 with ⟨h0,_⟩ | ⟨g2,cap,cur,he,hbg,hc,hn,hm,hs,ht⟩
 ·cases h0
 ·cases he;have hn':1≤c:=hn;have hK:K≤cur.size:=by rw [hs];exact Nat.le_mul_of_pos_left K hn'
  refine ⟨hbg,cur,hc,hK,fun w' y hw=>⟨by simp [hk], .inr ⟨g,c,_,rfl,hbg,hw,hn,hm,?_,?_⟩⟩⟩
  ·simp [hk];omega
  ·simp [hk]
theorem aP.head {α:Type} {K:Nat} {enc:α→List OC} {w:World} {base g c:Nat} {e:TypeId} {x:α} (hk:∀x,(enc x).length=K) (h:aP K enc w base e (.slice (some ⟨g,0,none⟩) 1 c) [x]):At oV w g 0 (enc x):=by
 obtain ⟨b,o,he,hat,_⟩:=(h.rd hk).elem 0 (by simp);cases he;simpa using hat
theorem aP.ptr {α:Type} {K:Nat} {enc:α→List OC} {w:World} {base n c:Nat} {p:Option Addr} {e:TypeId} {l:List α} (h:aP K enc w base e (.slice p n c) l) (hl:l≠[]):∃g,p=some ⟨g,0,none⟩:=by
 rcases h.2 with ⟨_,h0⟩ | ⟨g,cap,cur,he,_⟩
 ·exact absurd (xJ.1 h0) hl
 ·injection he with he;exact ⟨g,he⟩
theorem nZ.grown {α:Type} {K:Nat} {enc:α→List OC} {w w':World} {g o n c:Nat} {l:List α} (h:nZ K enc w (.slice (some ⟨g,o,none⟩) n c) l) {row:Option Nat} (hg:w.grownBy w' row) (hne:some g≠row):nZ K enc w' (.slice (some ⟨g,o,none⟩) n c) l:=by
 rcases h with hn | ⟨b,o2,cap,he,hc,ha,hlt⟩
 ·exact .inl hn
 ·injection he with e1 e2 e3
  injection e1 with e1
  injection e1 with e1 e4
  subst e1;subst e2;subst e3;subst e4;exact .inr ⟨_,_,_,rfl,hc,fun i hi=>(ha i hi).grown hg hlt hne,bJ hlt hg.size⟩
end
section
open Go Go.RowKit Mem
abbrev FT (w:World) (g:Nat):Prop:=Row oV w g 65 (aG aT++(aG aI++aG aH))
theorem FT.rd {w:World} {g:Nat} (h:FT w g):nZ 4 aG w (.slice (some ⟨g,0,none⟩) 3 3) [aT,aI,aH]:=nZ.row (l:=([aT,aI,aH]:List Cl)) (cs:=aG aT++(aG aI++aG aH)) h rfl (fun x _=>rfl)
structure MI (Y X:World) (l:List UInt8) (B nb g s r:Nat) (pr pe:Option Addr) (kr ke:Nat) (us:List OC):Prop where
 row:Row oV X nb 37 [IP g 3 3,dB pr s kr,dB pe r ke]
 cls:FT X g
 own:Mem.Own oV X B 62 (.slice pr s kr) us
 len:us.length=s
 each:∀i (h:i<us.length),aP 3 sO X B 61 (oV us[i]) (iO l i 3)
 ends:Mem.Own Value.bool X B 4 (.slice pe r ke) (jK l r)
 ds:∀i j (hi:i<us.length) (hj:j<us.length),i≠j→∀k,(oV us[i]).ownBlock=some k→(oV us[j]).ownBlock≠some k
 below:Below Y.heap.size Y X
 lo:Y.heap.size≤nb∧nb<B∧g<B∧g≠nb∧B≤X.heap.size
section
variable {Y X X':World} {l:List UInt8} {B nb g s r:Nat} {pr pe:Option Addr} {kr ke:Nat} {us:List OC}
theorem MI.mono (h:MI Y X l B nb g s r pr pe kr ke us) (hb:Below X.heap.size X X'):MI Y X' l B nb g s r pr pe kr ke us:=
 ⟨h.row.below hb h.row.lt,h.cls.below hb h.cls.lt,h.own.below' hb,h.len,fun i hi=>(h.each i hi).below' hb,h.ends.below' hb,h.ds,h.below.trans (hb.mono h.below.size),h.lo.1,h.lo.2.1,h.lo.2.2.1,h.lo.2.2.2.1,aJ h.lo.2.2.2.2 hb.size⟩
theorem JO (w:World) (b i:Nat) (v:Value):w.grownBy (w.setCell ⟨b,i,none⟩ v) (some b):=iQ (aY (ak w.heap.size w) (some b)) i v
theorem aP.far {α:Type} {K:Nat} {enc:α→List OC} {w w':World} {base:Nat} {e:TypeId} {v:Value} {l:List α} (h:aP K enc w base e v l) {b:Nat} (hb:b<base) (hg:w.grownBy w' (some b)):aP K enc w' base e v l:=
 h.grown hg fun k hk e=>by injection e with e;have:=(h.lt k hk).1;omega
theorem wm {α:Type} {f:α→Value} {w w':World} {base:Nat} {e:TypeId} {v:Value} {l:List α} (h:Mem.Own f w base e v l) {b:Nat} (hb:b<base) (hg:w.grownBy w' (some b)):Mem.Own f w' base e v l:=
 h.dW hg fun k hk e=>by injection e with e;have:=(h.lt k hk).1;omega
theorem MI.cells (h:MI Y X l B nb g s r pr pe kr ke us) (u:OC) (hu:aP 3 sO X B 61 (oV u) (iO l s 3)) (o:Obj) {p3:Option Addr} {c3:Nat} {w3:World}
  (hd:∀i (hi:i<us.length) k,(oV us[i]).ownBlock=some k→(oV u).ownBlock≠some k) (hO:Mem.Own oV w3 B 62 (.slice p3 (s+1) c3) (us++[u])) (hG:(X.alloc o).grownBy w3 (Value.slice pr s kr).ownBlock):
  MI Y (w3.setCell ⟨nb,1,none⟩ (.slice p3 (s+1) c3)) l B nb g (s+1) r p3 pe c3 ke (us++[u]):=by
 have ha:=ah (ak X.heap.size X) (af _) o;have h2:=h.mono ha;have hnb:∀k,(Value.slice pr s kr).ownBlock=some k→k≠nb:=fun k hk e=>by have:=(h2.own.lt k hk).1;have:=h2.lo.2.1;omega
 have hng:∀k,(Value.slice pr s kr).ownBlock=some k→k≠g:=fun k hk e=>by have:=(h2.own.lt k hk).1;have:=h2.lo.2.2.1;omega
 have r1:=h2.row.grown hG (fun e=>hnb nb e.symm rfl);have c1:=h2.cls.grown hG (fun e=>hng g e.symm rfl);have e1:∀i (hi:i<us.length),aP 3 sO w3 B 61 (oV us[i]) (iO l i 3):=fun i hi=>(h2.each i hi).grown hG ((h2.each i hi).type h2.own (by decide));have u1:=(hu.below' ha).grown hG ((hu.below' ha).type h2.own (by decide));have d1:=h2.ends.dW hG (l8 h2.ends h2.own (by decide));have b1:Below Y.heap.size Y w3:=h2.below.grown hG h2.below.size fun k hk=>by have:=(h2.own.lt k hk).1;have:=h2.lo.1;have:=h2.lo.2.1;omega
 have hg1:=JO w3 nb 1 (.slice p3 (s+1) c3);have hsz:=hG.size;have hlo:=h2.lo;refine ⟨?_,c1.grown hg1 (fun e=>by injection e with e;exact hlo.2.2.2.1 e),wm hO hlo.2.1 hg1,by rw [eH,h.len];rfl,fun i hi=> ?_,wm d1 hlo.2.1 hg1,?_,aM b1 1 hlo.1 _,hlo.1,hlo.2.1,hlo.2.2.1,hlo.2.2.2.1,?_⟩
 ·exact r1.set 1 (dB p3 (s+1) c3)
 ·rcases GN i us.length with hi2 | hi2
  ·rw [JB hi2];exact (e1 i hi2).far hlo.2.1 hg1
  ·have hie:i=us.length:=by simp at hi;omega
   subst hie;have:(us++[u])[us.length]'hi=u:=by simp
   rw [this,h.len];exact u1.far hlo.2.1 hg1
 ·have hlast:(us++[u])[us.length]'(by simp)=u:=by simp
  intro i j hi hj hij k hk;have hi0:i<us.length+1:=by simpa using hi
  have hj0:j<us.length+1:=by simpa using hj
  rcases GN i us.length with hi2 | hi2
  ·rw [JB hi2] at hk;rcases GN j us.length with hj2 | hj2
   ·rw [JB hj2];exact h.ds i j hi2 hj2 hij k hk
   ·obtain rfl:j=us.length:=by omega
    rw [hlast];exact hd i hi2 k hk
  ·obtain rfl:i=us.length:=by omega
   rw [hlast] at hk;have hj2:j<us.length:=by omega
   rw [JB hj2];exact fun e=>hd j hj2 k e hk
 ·have:=hg1.size;omega
theorem MI.flags (h:MI Y X l B nb g s r pr pe kr ke us) (o:Obj) {p3:Option Addr} {c3:Nat} {w3:World}
  (hO:Mem.Own Value.bool w3 B 4 (.slice p3 (r+1) c3) (jK l (r+1))) (hG:(X.alloc o).grownBy w3 (Value.slice pe r ke).ownBlock):
  (Row oV w3 nb 37 [IP g 3 3,dB pr s kr,dB pe r ke]∧Below Y.heap.size Y w3)∧MI Y (w3.setCell ⟨nb,2,none⟩ (.slice p3 (r+1) c3)) l B nb g s (r+1) pr p3 kr c3 us:=by
 have ha:=ah (ak X.heap.size X) (af _) o;have h2:=h.mono ha;have hnb:∀k,(Value.slice pe r ke).ownBlock=some k→k≠nb:=fun k hk e=>by have:=(h2.ends.lt k hk).1;have:=h2.lo.2.1;omega
 have hng:∀k,(Value.slice pe r ke).ownBlock=some k→k≠g:=fun k hk e=>by have:=(h2.ends.lt k hk).1;have:=h2.lo.2.2.1;omega
 have r1:=h2.row.grown hG (fun e=>hnb nb e.symm rfl);have c1:=h2.cls.grown hG (fun e=>hng g e.symm rfl);have e1:∀i (hi:i<us.length),aP 3 sO w3 B 61 (oV us[i]) (iO l i 3):=fun i hi=>(h2.each i hi).grown hG ((h2.each i hi).type h2.ends (by decide));have d1:=h2.own.dW hG (l8 h2.own h2.ends (by decide));have b1:Below Y.heap.size Y w3:=h2.below.grown hG h2.below.size fun k hk=>by have:=(h2.ends.lt k hk).1;have:=h2.lo.1;have:=h2.lo.2.1;omega
 have hg1:=JO w3 nb 2 (.slice p3 (r+1) c3);have hsz:=hG.size;have hlo:=h2.lo;refine ⟨⟨r1,b1⟩,r1.set 2 (dB p3 (r+1) c3),c1.grown hg1 (fun e=>by injection e with e;exact hlo.2.2.2.1 e),wm d1 hlo.2.1 hg1,h.len,fun i hi=>(e1 i hi).far hlo.2.1 hg1,wm hO hlo.2.1 hg1,h.ds,aM b1 2 hlo.1 _,hlo.1,hlo.2.1,hlo.2.2.1,hlo.2.2.2.1,?_⟩;have:=hg1.size;omega
end
end
section
open Go Go.RowKit Mem
theorem aa2:Bu Tryz.prog 62 61 3 24:=Bu.mk' (z:= .agg #[.int .i64 0, .int .i64 0, .int .u8 0]) Tryz.underlying62 (by kernel_rfl) rfl
theorem aco:lD Tryz.prog 34 62 24:=lD.mk' (z:= .slice none 0 0) Tryz.underlying34 (by kernel_rfl) rfl
theorem abA:lD Tryz.prog 35 4 1:=lD.mk' (z:= .bool false) Tryz.underlying35 (by kernel_rfl) rfl
theorem J4 (c:Ce):(sO c).length=3:=rfl
theorem RQ (x:Bool):(Value.bool x).oneCell'=true:=rfl
theorem IJ:(aI.union aH).NJ=aT:=by decide+kernel
theorem ac3 (w:World) (p:Option Addr) (c:Nat) (l:List UInt8) (hv:Rd aV w (.slice p l.length c) l):Calls Tryz.prog 9 #[.slice p l.length c] w fun e w'=>∃(B g nb:Nat) (pr pe:Option Addr) (kr ke:Nat) (us:List OC) (X2 X:World),e= .returned (.agg #[.slice (some ⟨g,0,none⟩) 3 3, .slice pr (aX l) kr, .slice pe (aX l) ke])∧MI X2 X l B nb g (aX l) (aX l) pr pe kr ke us∧Below w.heap.size w X∧Row oV X w.heap.size 37 [on,on,on]∧w.heap.size<X2.heap.size∧w.heap.size<g∧X.grownBy w' (some w.heap.size):=by
 have HV:=Lib.hid hv;clear hv;go_enter Tryz.func9,Tryz.ntmps9;go_upto_region 2 with (fail)
 obtain ⟨W,hW,hB,hs,r0⟩:∃W,(w.alloc (.cells #[.slice none 0 0, .slice none 0 0, .slice none 0 0] 37))=W∧Below w.heap.size w W∧w.heap.size+1≤W.heap.size∧Row oV W w.heap.size 37 [on,on,on]:=
  ⟨_,rfl,ah (ak _ _) (af _) _,by simp,Row.new _ _ rfl⟩
 rw [hW];clear hW;go_cut [13] (fun s13 wx=>s13= .bool (decide (0<l.length))∧wx=W)
 ·go_wp2;go_meet;exact ⟨by simp,rfl⟩
 obtain ⟨h13,rfl⟩:=hcut;rename_i hK;refine hK _ _ ?_;clear hK;go_cut [3] (fun s3 wx=>s3= .int .i64 (aX l:Nat)∧wx=wc)
 ·by_cases h0:0<l.length
  ·rw [decide_eq_true h0] at h13;subst h13;have hq:(0:Int)<(l.length:Int):=by omega
   obtain ⟨b,o,rfl,hcl⟩:∃b o,p=some ⟨b,o,none⟩∧wc.cell? ⟨b,o,none⟩=some (.int .u8 (l[0].toNat:Int)):=by
    rcases HV.out with ⟨_,_,e0⟩ | ⟨b,o,cap,he,hc,hat,hbl⟩
    ·rw [e0] at h0;simp at h0
    ·cases he;refine ⟨b,o,rfl,?_⟩;have:=hat 0 h0;rw [hB.cell (p:=⟨b,o,none⟩) hbl];rw [yh,bK h0] at this;exact this
   have HM:Hid (aX l=1+l[0].toNat % 4):=Lib.hid (by unfold aX;rw [if_pos h0,bK h0];rfl);have hx1:((l[0].toNat:Nat):Int).tmod 4=((l[0].toNat % 4:Nat):Int):=by rw [Lp (by omega)];omega
   have hx2:((l[0].toNat:Nat):Int) % 4=((l[0].toNat % 4:Nat):Int):=by omega
   have hx3:l[0].toNat % 4<4:=Qv _ (by omega);generalize l[0].toNat=y at *;generalize y % 4=x at *;have hw1:IntKind.u8.wrap (x:Int)=(x:Int):=by rw [Im];omega
   have hw2:wrap64 (x:Int)=(x:Int):=by unfold wrap64;omega
   have hw3:wrap64 (1+(x:Int))=1+(x:Int):=by unfold wrap64;omega
   go_wp2;go_meet;have e1:((1+x:Nat):Int)=1+(x:Int):=by omega
   exact ⟨by rw [HM.out,e1]<;>(first | rfl | rw [hw3]),rfl⟩
  ·rw [decide_eq_false h0] at h13;subst h13;have hq:¬(0:Int)<(l.length:Int):=by omega
   have HM:Hid (aX l=1):=Lib.hid (by unfold aX;rw [if_neg h0]);go_wp2;go_meet;exact ⟨by rw [HM.out];rfl,rfl⟩
 obtain ⟨rfl,rfl⟩:=hcut;clear h13;have hst:=Cz l;generalize hsn:aX l=sn at *;clear hs;go_upto_region 4 with (fail);go_wp2_with fail;have NL:Rd aV (wc.alloc (.cells #[.int .u8 97] 5)) (.slice (some ⟨wc.heap.size,0,none⟩) 1 1) [97]:= .inr ⟨wc.heap.size,0,1,rfl,af _,(Row.new (f:=aV) (l:=[97]) wc _ rfl).at,by simp⟩;have hb:=ah (ak wc.heap.size wc) (af _) (.cells #[.int .u8 97] 5);generalize (wc.alloc (.cells #[.int .u8 97] 5))=AX1 at *;refine (ad5 AX1 _ [97] NL (by simp)).mono ?_;rintro e XL ⟨rfl,hb2⟩;rw [show fU [97]=aI from by decide+kernel];have hb3:=hb.trans (hb2.mono hb.size);replace r0:=r0.below hb3 r0.lt;replace hB:=hB.trans (hb3.mono hB.size);have aeW:w.heap.size<XL.heap.size:=r0.lt;have hz:Row oV (XL.alloc (.cells #[.int .u64 0, .int .u64 0, .int .u64 0, .int .u64 0] 65)) XL.heap.size 65 [ow 0,ow 0,ow 0,ow 0]:=Row.new _ _ rfl;go_upto_region 5 with (((with_reducible refine zS (l':=aG aI) hz ay ?_);(intro X1 s4 hG1 hz1)));have hb4:=jT (ak XL.heap.size XL) hG1;replace r0:=r0.below hb4 r0.lt;replace hB:=hB.trans (hb4.mono hB.size);clear NL hb hb2 hb3 hz hG1 hz1 hb4;generalize XL.heap.size=ns4 at *;go_wp2_with fail;have NL:Rd aV (X1.alloc (.cells #[.int .u8 98] 5)) (.slice (some ⟨X1.heap.size,0,none⟩) 1 1) [98]:= .inr ⟨X1.heap.size,0,1,rfl,af _,(Row.new (f:=aV) (l:=[98]) X1 _ rfl).at,by simp⟩;have hb:=ah (ak X1.heap.size X1) (af _) (.cells #[.int .u8 98] 5);generalize (X1.alloc (.cells #[.int .u8 98] 5))=AX2 at *;refine (ad5 AX2 _ [98] NL (by simp)).mono ?_;rintro e Yy ⟨rfl,hb2⟩;rw [show fU [98]=aH from by decide+kernel];have hb3:=hb.trans (hb2.mono hb.size);replace r0:=r0.below hb3 r0.lt;replace s4:=s4.below hb3 s4.lt;replace hB:=hB.trans (hb3.mono hB.size);have afv:w.heap.size<Yy.heap.size:=r0.lt;have hz:Row oV (Yy.alloc (.cells #[.int .u64 0, .int .u64 0, .int .u64 0, .int .u64 0] 65)) Yy.heap.size 65 [ow 0,ow 0,ow 0,ow 0]:=Row.new _ _ rfl;go_upto_region 6 with (((with_reducible refine zS (l':=aG aH) hz ay ?_);(intro X2 s5 hG1 hz1)));have hb4:=jT (ak Yy.heap.size Yy) hG1;replace r0:=r0.below hb4 r0.lt;replace s4:=s4.below hb4 s4.lt;replace hB:=hB.trans (hb4.mono hB.size);clear NL hb hb2 hb3 hz hG1 hz1 hb4;generalize Yy.heap.size=ns5 at *;rw [DN];go_cut [6] (fun s6 wx=>∃nb g,s6= .pointer (some ⟨nb,0,none⟩)∧X2.heap.size≤nb∧X2.heap.size≤g∧g≠nb∧Row oV wx nb 37 [IP g 3 3,on,on]∧FT wx g∧Below X2.heap.size X2 wx)
 ·refine aC (S:=fun X=>Below X2.heap.size X2 X) 9 rfl (by kernel_rfl) (ak _ _).drew fun hS=> ?_;refine tk 0 24 (.agg (au aI)) hS ?_ rfl (aA (f:=oV) (l:=aG aI) ay (.tmp 4) rfl ns4 0 rfl (fun W' h=>(s4.below h s4.lt).at) rfl rfl);refine tk 1 25 (.agg (au aH)) hS ?_ rfl (aA (f:=oV) (l:=aG aH) ay (.tmp 5) rfl ns5 0 rfl (fun W' h=>(s5.below h s5.lt).at) rfl rfl);refine tk 4 28 (.agg (au aI)) hS ?_ rfl (aA (f:=oV) (l:=aG aI) ay (.tmp 4) rfl ns4 0 rfl (fun W' h=>(s4.below h s4.lt).at) rfl rfl);refine tk 5 29 (.agg (au aH)) hS ?_ rfl (aA (f:=oV) (l:=aG aH) ay (.tmp 5) rfl ns5 0 rfl (fun W' h=>(s5.below h s5.lt).at) rfl rfl);refine kL (rs:=[2,8]) (by kernel_rfl) (by simp) (cZ.cons (by omega) rfl (fun K' hK=> ?_) (cZ.cons (by omega) rfl (fun K' hK=> ?_) cZ.nil))
  ·refine cD 26 40 #[.agg (au aI), .agg (au aH)] ?_;refine (Vd _ aI aH).mono ?_;rintro e A1 ⟨rfl,hBx⟩;replace hS:=hS.trans (hBx.mono hS.size);refine ⟨_,rfl,hK.out _ _ hS fun _=> ?_⟩;clear hK;simp only [sA,sB,sC];refine kL (rs:=[3,8]) (by kernel_rfl) (by simp) (cZ.cons (by omega) rfl (fun K' hK=> ?_) (cZ.cons (by omega) rfl (fun K' hK=> ?_) cZ.nil))
   ·refine cD 27 39 #[.agg (au (aI.union aH))] ?_;refine (Za _ (aI.union aH)).mono ?_;rintro e A2 ⟨rfl,hBx⟩;rw [IJ];replace hS:=hS.trans (hBx.mono hS.size);refine ⟨_,rfl,hK.out _ _ hS fun _=> ?_⟩;clear hK;simp only [sA,sB,sC];refine kL (rs:=[6,8]) (by kernel_rfl) (by simp) (cZ.cons (by omega) rfl (fun K' hK=> ?_) (cZ.cons (by omega) rfl (fun K' hK=> ?_) cZ.nil))
    ·have hBx:=ah (ak A2.heap.size A2) (af _) (.cells #[.int .u64 (X aT.a), .int .u64 (X aT.b), .int .u64 (X aT.c), .int .u64 (X aT.d), .int .u64 (X aI.a), .int .u64 (X aI.b), .int .u64 (X aI.c), .int .u64 (X aI.d), .int .u64 (X aH.a), .int .u64 (X aH.b), .int .u64 (X aH.c), .int .u64 (X aH.d)] 65);have hR:FT (A2.alloc (.cells #[.int .u64 (X aT.a), .int .u64 (X aT.b), .int .u64 (X aT.c), .int .u64 (X aT.d), .int .u64 (X aI.a), .int .u64 (X aI.b), .int .u64 (X aI.c), .int .u64 (X aI.d), .int .u64 (X aH.a), .int .u64 (X aH.b), .int .u64 (X aH.c), .int .u64 (X aH.d)] 65)) A2.heap.size:=Row.new A2 (.cells #[.int .u64 (X aT.a), .int .u64 (X aT.b), .int .u64 (X aT.c), .int .u64 (X aT.d), .int .u64 (X aI.a), .int .u64 (X aI.b), .int .u64 (X aI.c), .int .u64 (X aI.d), .int .u64 (X aH.a), .int .u64 (X aH.b), .int .u64 (X aH.c), .int .u64 (X aH.d)] 65) rfl;refine tV (d:=30) (v:= .slice (some ⟨A2.heap.size,0,none⟩) 3 3) (w':=A2.alloc (.cells #[.int .u64 (X aT.a), .int .u64 (X aT.b), .int .u64 (X aT.c), .int .u64 (X aT.d), .int .u64 (X aI.a), .int .u64 (X aI.b), .int .u64 (X aI.c), .int .u64 (X aI.d), .int .u64 (X aH.a), .int .u64 (X aH.b), .int .u64 (X aH.c), .int .u64 (X aH.d)] 65)) rfl rfl (by first | rfl | kernel_rfl | (simp [execOp,go_sem];done)) ?_;have ND:X2.heap.size≤A2.heap.size:=hS.size;generalize (A2.alloc (.cells #[.int .u64 (X aT.a), .int .u64 (X aT.b), .int .u64 (X aT.c), .int .u64 (X aT.d), .int .u64 (X aI.a), .int .u64 (X aI.b), .int .u64 (X aI.c), .int .u64 (X aI.d), .int .u64 (X aH.a), .int .u64 (X aH.b), .int .u64 (X aH.c), .int .u64 (X aH.d)] 65))=A3 at *;have hgl:A2.heap.size<A3.heap.size:=hR.lt;replace hS:=hS.trans (hBx.mono hS.size);refine hK.out _ _ hS fun _=> ?_;clear hK;simp only [sA,sB,sC];refine tk 7 31 (.agg #[.slice (some ⟨A2.heap.size,0,none⟩) 3 3, .slice none 0 0, .slice none 0 0]) hS ?_;refine iT 8 (fun K' hK=> ?_)
     ·have hBx:=ah (ak A3.heap.size A3) (af _) (.cells #[.slice none 0 0, .slice none 0 0, .slice none 0 0] 37);have hz:Row oV (A3.alloc (.cells #[.slice none 0 0, .slice none 0 0, .slice none 0 0] 37)) A3.heap.size 37 [on,on,on]:=Row.new _ _ rfl;refine aD 6 (.cells #[.slice none 0 0, .slice none 0 0, .slice none 0 0] 37) ?_;have Jt:X2.heap.size≤A3.heap.size:=hS.size;have hgn:A2.heap.size≠A3.heap.size:=fun e=>by have:=hgl;omega
      generalize (A3.alloc (.cells #[.slice none 0 0, .slice none 0 0, .slice none 0 0] 37))=A4 at *;replace hR:=hR.below hBx hR.lt;replace hgl:=bJ hgl hBx.size;replace hS:=hS.trans (hBx.mono hS.size);refine hK.out _ _ hS fun _=> ?_;clear hK;simp only [sA,sB,sC];refine aL (by kernel_rfl) ?_;simp only [List.drop];go_wp2_with (((with_reducible refine zS (l':=[IP A2.heap.size 3 3,on,on]) hz sH ?_);(intro Y Nr DK hzY)));go_meet;exact ⟨A3.heap.size,A2.heap.size,rfl,Jt,ND,hgn,Nr,hR.grown DK (fun e=>by injection e with e;exact hgn e),hS.grown DK hS.size (fun j e=>by cases e;exact Jt)⟩
    ·have hBx:=ah (ak A2.heap.size A2) (af _) (.cells #[.slice none 0 0, .slice none 0 0, .slice none 0 0] 37);have hz:Row oV (A2.alloc (.cells #[.slice none 0 0, .slice none 0 0, .slice none 0 0] 37)) A2.heap.size 37 [on,on,on]:=Row.new _ _ rfl;refine aD 6 (.cells #[.slice none 0 0, .slice none 0 0, .slice none 0 0] 37) ?_;have Jt:X2.heap.size≤A2.heap.size:=hS.size;generalize (A2.alloc (.cells #[.slice none 0 0, .slice none 0 0, .slice none 0 0] 37))=A5 at *;replace hS:=hS.trans (hBx.mono hS.size);refine hK.out _ _ hS fun _=> ?_;clear hK;simp only [sA,sB,sC];refine iT 6 (fun K' hK=> ?_)
     ·have hBx:=ah (ak A5.heap.size A5) (af _) (.cells #[.int .u64 (X aT.a), .int .u64 (X aT.b), .int .u64 (X aT.c), .int .u64 (X aT.d), .int .u64 (X aI.a), .int .u64 (X aI.b), .int .u64 (X aI.c), .int .u64 (X aI.d), .int .u64 (X aH.a), .int .u64 (X aH.b), .int .u64 (X aH.c), .int .u64 (X aH.d)] 65);have hR:FT (A5.alloc (.cells #[.int .u64 (X aT.a), .int .u64 (X aT.b), .int .u64 (X aT.c), .int .u64 (X aT.d), .int .u64 (X aI.a), .int .u64 (X aI.b), .int .u64 (X aI.c), .int .u64 (X aI.d), .int .u64 (X aH.a), .int .u64 (X aH.b), .int .u64 (X aH.c), .int .u64 (X aH.d)] 65)) A5.heap.size:=Row.new A5 (.cells #[.int .u64 (X aT.a), .int .u64 (X aT.b), .int .u64 (X aT.c), .int .u64 (X aT.d), .int .u64 (X aI.a), .int .u64 (X aI.b), .int .u64 (X aI.c), .int .u64 (X aI.d), .int .u64 (X aH.a), .int .u64 (X aH.b), .int .u64 (X aH.c), .int .u64 (X aH.d)] 65) rfl;refine tV (d:=30) (v:= .slice (some ⟨A5.heap.size,0,none⟩) 3 3) (w':=A5.alloc (.cells #[.int .u64 (X aT.a), .int .u64 (X aT.b), .int .u64 (X aT.c), .int .u64 (X aT.d), .int .u64 (X aI.a), .int .u64 (X aI.b), .int .u64 (X aI.c), .int .u64 (X aI.d), .int .u64 (X aH.a), .int .u64 (X aH.b), .int .u64 (X aH.c), .int .u64 (X aH.d)] 65)) rfl rfl (by first | rfl | kernel_rfl | (simp [execOp,go_sem];done)) ?_;have ND:X2.heap.size≤A5.heap.size:=hS.size;have hgn:A5.heap.size≠A2.heap.size:=fun e=>by have:=hz.lt;omega
      generalize (A5.alloc (.cells #[.int .u64 (X aT.a), .int .u64 (X aT.b), .int .u64 (X aT.c), .int .u64 (X aT.d), .int .u64 (X aI.a), .int .u64 (X aI.b), .int .u64 (X aI.c), .int .u64 (X aI.d), .int .u64 (X aH.a), .int .u64 (X aH.b), .int .u64 (X aH.c), .int .u64 (X aH.d)] 65))=A6 at *;replace hz:=hz.below hBx hz.lt;have hgl:A5.heap.size<A6.heap.size:=hR.lt;replace hS:=hS.trans (hBx.mono hS.size);refine hK.out _ _ hS fun _=> ?_;clear hK;simp only [sA,sB,sC];refine tk 7 31 (.agg #[.slice (some ⟨A5.heap.size,0,none⟩) 3 3, .slice none 0 0, .slice none 0 0]) hS ?_;refine aL (by kernel_rfl) ?_;simp only [List.drop];go_wp2_with (((with_reducible refine zS (l':=[IP A5.heap.size 3 3,on,on]) hz sH ?_);(intro Y Nr DK hzY)));go_meet;exact ⟨A2.heap.size,A5.heap.size,rfl,Jt,ND,hgn,Nr,hR.grown DK (fun e=>by injection e with e;exact hgn e),hS.grown DK hS.size (fun j e=>by cases e;exact Jt)⟩
   ·have hBx:=ah (ak A1.heap.size A1) (af _) (.cells #[.slice none 0 0, .slice none 0 0, .slice none 0 0] 37);have hz:Row oV (A1.alloc (.cells #[.slice none 0 0, .slice none 0 0, .slice none 0 0] 37)) A1.heap.size 37 [on,on,on]:=Row.new _ _ rfl;refine aD 6 (.cells #[.slice none 0 0, .slice none 0 0, .slice none 0 0] 37) ?_;have Jt:X2.heap.size≤A1.heap.size:=hS.size;generalize (A1.alloc (.cells #[.slice none 0 0, .slice none 0 0, .slice none 0 0] 37))=A7 at *;replace hS:=hS.trans (hBx.mono hS.size);refine hK.out _ _ hS fun _=> ?_;clear hK;simp only [sA,sB,sC];refine iT 3 (fun K' hK=> ?_)
    ·refine cD 27 39 #[.agg (au (aI.union aH))] ?_;refine (Za _ (aI.union aH)).mono ?_;rintro e A8 ⟨rfl,hBx⟩;rw [IJ];replace hz:=hz.below hBx hz.lt;replace hS:=hS.trans (hBx.mono hS.size);refine ⟨_,rfl,hK.out _ _ hS fun _=> ?_⟩;clear hK;simp only [sA,sB,sC];refine iT 6 (fun K' hK=> ?_)
     ·have hBx:=ah (ak A8.heap.size A8) (af _) (.cells #[.int .u64 (X aT.a), .int .u64 (X aT.b), .int .u64 (X aT.c), .int .u64 (X aT.d), .int .u64 (X aI.a), .int .u64 (X aI.b), .int .u64 (X aI.c), .int .u64 (X aI.d), .int .u64 (X aH.a), .int .u64 (X aH.b), .int .u64 (X aH.c), .int .u64 (X aH.d)] 65);have hR:FT (A8.alloc (.cells #[.int .u64 (X aT.a), .int .u64 (X aT.b), .int .u64 (X aT.c), .int .u64 (X aT.d), .int .u64 (X aI.a), .int .u64 (X aI.b), .int .u64 (X aI.c), .int .u64 (X aI.d), .int .u64 (X aH.a), .int .u64 (X aH.b), .int .u64 (X aH.c), .int .u64 (X aH.d)] 65)) A8.heap.size:=Row.new A8 (.cells #[.int .u64 (X aT.a), .int .u64 (X aT.b), .int .u64 (X aT.c), .int .u64 (X aT.d), .int .u64 (X aI.a), .int .u64 (X aI.b), .int .u64 (X aI.c), .int .u64 (X aI.d), .int .u64 (X aH.a), .int .u64 (X aH.b), .int .u64 (X aH.c), .int .u64 (X aH.d)] 65) rfl;refine tV (d:=30) (v:= .slice (some ⟨A8.heap.size,0,none⟩) 3 3) (w':=A8.alloc (.cells #[.int .u64 (X aT.a), .int .u64 (X aT.b), .int .u64 (X aT.c), .int .u64 (X aT.d), .int .u64 (X aI.a), .int .u64 (X aI.b), .int .u64 (X aI.c), .int .u64 (X aI.d), .int .u64 (X aH.a), .int .u64 (X aH.b), .int .u64 (X aH.c), .int .u64 (X aH.d)] 65)) rfl rfl (by first | rfl | kernel_rfl | (simp [execOp,go_sem];done)) ?_;have ND:X2.heap.size≤A8.heap.size:=hS.size;have hgn:A8.heap.size≠A1.heap.size:=fun e=>by have:=hz.lt;omega
      generalize (A8.alloc (.cells #[.int .u64 (X aT.a), .int .u64 (X aT.b), .int .u64 (X aT.c), .int .u64 (X aT.d), .int .u64 (X aI.a), .int .u64 (X aI.b), .int .u64 (X aI.c), .int .u64 (X aI.d), .int .u64 (X aH.a), .int .u64 (X aH.b), .int .u64 (X aH.c), .int .u64 (X aH.d)] 65))=A9 at *;replace hz:=hz.below hBx hz.lt;have hgl:A8.heap.size<A9.heap.size:=hR.lt;replace hS:=hS.trans (hBx.mono hS.size);refine hK.out _ _ hS fun _=> ?_;clear hK;simp only [sA,sB,sC];refine tk 7 31 (.agg #[.slice (some ⟨A8.heap.size,0,none⟩) 3 3, .slice none 0 0, .slice none 0 0]) hS ?_;refine aL (by kernel_rfl) ?_;simp only [List.drop];go_wp2_with (((with_reducible refine zS (l':=[IP A8.heap.size 3 3,on,on]) hz sH ?_);(intro Y Nr DK hzY)));go_meet;exact ⟨A1.heap.size,A8.heap.size,rfl,Jt,ND,hgn,Nr,hR.grown DK (fun e=>by injection e with e;exact hgn e),hS.grown DK hS.size (fun j e=>by cases e;exact Jt)⟩
  ·have hBx:=ah (ak X2.drew.heap.size X2.drew) (af _) (.cells #[.slice none 0 0, .slice none 0 0, .slice none 0 0] 37);have hz:Row oV (X2.drew.alloc (.cells #[.slice none 0 0, .slice none 0 0, .slice none 0 0] 37)) X2.drew.heap.size 37 [on,on,on]:=Row.new _ _ rfl;refine aD 6 (.cells #[.slice none 0 0, .slice none 0 0, .slice none 0 0] 37) ?_;have Jt:X2.heap.size≤X2.drew.heap.size:=hS.size;generalize (X2.drew.alloc (.cells #[.slice none 0 0, .slice none 0 0, .slice none 0 0] 37))=A10 at *;replace hS:=hS.trans (hBx.mono hS.size);refine hK.out _ _ hS fun _=> ?_;clear hK;simp only [sA,sB,sC];refine iT 2 (fun K' hK=> ?_)
   ·refine cD 26 40 #[.agg (au aI), .agg (au aH)] ?_;refine (Vd _ aI aH).mono ?_;rintro e A11 ⟨rfl,hBx⟩;replace hz:=hz.below hBx hz.lt;replace hS:=hS.trans (hBx.mono hS.size);refine ⟨_,rfl,hK.out _ _ hS fun _=> ?_⟩;clear hK;simp only [sA,sB,sC];refine iT 3 (fun K' hK=> ?_)
    ·refine cD 27 39 #[.agg (au (aI.union aH))] ?_;refine (Za _ (aI.union aH)).mono ?_;rintro e BJ ⟨rfl,hBx⟩;rw [IJ];replace hz:=hz.below hBx hz.lt;replace hS:=hS.trans (hBx.mono hS.size);refine ⟨_,rfl,hK.out _ _ hS fun _=> ?_⟩;clear hK;simp only [sA,sB,sC];refine iT 6 (fun K' hK=> ?_)
     ·have hBx:=ah (ak BJ.heap.size BJ) (af _) (.cells #[.int .u64 (X aT.a), .int .u64 (X aT.b), .int .u64 (X aT.c), .int .u64 (X aT.d), .int .u64 (X aI.a), .int .u64 (X aI.b), .int .u64 (X aI.c), .int .u64 (X aI.d), .int .u64 (X aH.a), .int .u64 (X aH.b), .int .u64 (X aH.c), .int .u64 (X aH.d)] 65);have hR:FT (BJ.alloc (.cells #[.int .u64 (X aT.a), .int .u64 (X aT.b), .int .u64 (X aT.c), .int .u64 (X aT.d), .int .u64 (X aI.a), .int .u64 (X aI.b), .int .u64 (X aI.c), .int .u64 (X aI.d), .int .u64 (X aH.a), .int .u64 (X aH.b), .int .u64 (X aH.c), .int .u64 (X aH.d)] 65)) BJ.heap.size:=Row.new BJ (.cells #[.int .u64 (X aT.a), .int .u64 (X aT.b), .int .u64 (X aT.c), .int .u64 (X aT.d), .int .u64 (X aI.a), .int .u64 (X aI.b), .int .u64 (X aI.c), .int .u64 (X aI.d), .int .u64 (X aH.a), .int .u64 (X aH.b), .int .u64 (X aH.c), .int .u64 (X aH.d)] 65) rfl;refine tV (d:=30) (v:= .slice (some ⟨BJ.heap.size,0,none⟩) 3 3) (w':=BJ.alloc (.cells #[.int .u64 (X aT.a), .int .u64 (X aT.b), .int .u64 (X aT.c), .int .u64 (X aT.d), .int .u64 (X aI.a), .int .u64 (X aI.b), .int .u64 (X aI.c), .int .u64 (X aI.d), .int .u64 (X aH.a), .int .u64 (X aH.b), .int .u64 (X aH.c), .int .u64 (X aH.d)] 65)) rfl rfl (by first | rfl | kernel_rfl | (simp [execOp,go_sem];done)) ?_;have ND:X2.heap.size≤BJ.heap.size:=hS.size;have hgn:BJ.heap.size≠X2.drew.heap.size:=fun e=>by have:=hz.lt;omega
      generalize (BJ.alloc (.cells #[.int .u64 (X aT.a), .int .u64 (X aT.b), .int .u64 (X aT.c), .int .u64 (X aT.d), .int .u64 (X aI.a), .int .u64 (X aI.b), .int .u64 (X aI.c), .int .u64 (X aI.d), .int .u64 (X aH.a), .int .u64 (X aH.b), .int .u64 (X aH.c), .int .u64 (X aH.d)] 65))=A13 at *;replace hz:=hz.below hBx hz.lt;have hgl:BJ.heap.size<A13.heap.size:=hR.lt;replace hS:=hS.trans (hBx.mono hS.size);refine hK.out _ _ hS fun _=> ?_;clear hK;simp only [sA,sB,sC];refine tk 7 31 (.agg #[.slice (some ⟨BJ.heap.size,0,none⟩) 3 3, .slice none 0 0, .slice none 0 0]) hS ?_;refine aL (by kernel_rfl) ?_;simp only [List.drop];go_wp2_with (((with_reducible refine zS (l':=[IP BJ.heap.size 3 3,on,on]) hz sH ?_);(intro Y Nr DK hzY)));go_meet;exact ⟨X2.drew.heap.size,BJ.heap.size,rfl,Jt,ND,hgn,Nr,hR.grown DK (fun e=>by injection e with e;exact hgn e),hS.grown DK hS.size (fun j e=>by cases e;exact Jt)⟩
 obtain ⟨nb,g,rfl,hnb,hg,hgn,hrow,hR,hb⟩:=hcut;have hlr:w.heap.size<X2.heap.size:=r0.lt
 have HI:Hid (∀i (h:i<l.length),∃b o,p=some ⟨b,o,none⟩∧∀X,Below X2.heap.size X2 X→X.cell? ⟨b,o+i,none⟩=some (.int .u8 (l[i].toNat:Int))):=Lib.hid fun i hi=>by
  rcases HV.out with ⟨_,_,e0⟩ | ⟨b,o,cap,he,hc,hat,hbl⟩
  ·rw [e0] at hi;simp at hi
  ·cases he;refine ⟨b,o,rfl,fun X hX=> ?_⟩;rw [hX.cell (p:=⟨b,o+i,none⟩) (by show b<X2.heap.size;omega),hB.cell (p:=⟨b,o+i,none⟩) hbl,hat i hi,bK hi];rfl
 obtain ⟨B,Zp⟩:∃B,B=wc.heap.size:=⟨_,rfl⟩
 have HM0:MI X2 wc l B nb g 0 0 none none 0 0 []:=by
  subst Zp;have hgl:g<wc.heap.size:=hR.lt;exact ⟨hrow,hR,Own.nil _ _ _,rfl,fun i hi=>by simp at hi,Own.nil _ _ _,fun i j hi=>by simp at hi,hb,hnb,hrow.lt,hgl,hgn,af _⟩
 have Kc:=Lib.hid r0;have HB0:=Lib.hid hB;clear r0 s4 s5 hB aeW afv hrow hR hb hnb hgn Zp HV;replace HM0:=Lib.hid HM0;have HG:=Lib.hid hg;clear hg;go_upto_region 7 with (fail);go_upto_region 8 with (fail)
 go_loopw [7,8,9,10] (fun s7 s8 s9 s10 wr=>∃(s:Nat) (pr pe:Option Addr) (kr ke:Nat) (us:List OC),s≤sn∧s7= .int .i64 s∧Hid (MI X2 wr l B nb g s s pr pe kr ke us)) (fun i _ _ _ _=>sn - (intOf i).toNat)
 case atStart=>exact ⟨0,none,none,0,0,[],by omega,rfl,HM0⟩
 case round=>
  obtain ⟨s,pr,pe,kr,ke,us,hsl,rfl,HM⟩:=hrel;by_cases hlt:s<sn
  ·have hq:(s:Int)<(sn:Int):=by omega
   go_upto_region 12 with (fail);have uR:aP 3 sO (wr.alloc (.cells #[] 61)) wr.heap.size 61 (.slice (some ⟨wr.heap.size,0,none⟩) 0 0) (iO l s 0):=aP.afF wr wr.heap.size 61 (af _);have hb0:=ah (ak wr.heap.size wr) (af _) (.cells #[] 61);generalize (wr.alloc (.cells #[] 61))=wA at *
   go_loopw [8,9,10] (fun s8 s9 s10 wq=>∃(k:Nat) (p8:Option Addr) (c8:Nat),k≤3∧s9= .int .i64 k∧s8= .slice p8 k c8∧aP 3 sO wq wr.heap.size 61 (.slice p8 k c8) (iO l s k)∧Below wr.heap.size wr wq) (fun _ i _ _=>3 - (intOf i).toNat)
   case atStart=>exact ⟨0,_,0,by omega,rfl,rfl,uR,hb0⟩
   case round=>
    clear uR hb0;obtain ⟨k,p8,c8,hk3,rfl,rfl,hO,hb2⟩:=hrel;by_cases hkt:k<3
    ·have hq2:(k:Int)<3:=by omega
     obtain ⟨m,hm⟩:∃m:Nat,m=1+4 * s+k:=⟨_,rfl⟩
     have a5:1+4 * (s:Int)+(k:Int)=(m:Int):=by omega
     replace hm:=Lib.hid hm;have HMR:=Lib.hid (Qn l s k);have hms:Hid (aX l=sn):=Lib.hid hsn;by_cases hin:m<l.length
     ·have hq3:(m:Int)<(l.length:Int):=by omega
      have hx:Hid (P6 l s k=(l[m]'hin).toNat):=Lib.hid (by unfold P6;rw [← hm.out,if_pos hin,bK hin];rfl);obtain ⟨b,o,rfl,hcl⟩:=HI.out m hin;have hc:=hcl _ (HM.out.mono hb2).below;clear hcl;have hyl:(l[m]'hin).toNat<256:=(l[m]'hin).toNat_lt;generalize (l[m]'hin).toNat=y at *;have hw2:wrap64 (y:Int)=(y:Int):=by unfold wrap64;omega
      go_wp2_with fail;clear hc;refine (Z9 _ y sn hyl hst).mono ?_;rintro e w5 ⟨rfl,hb5⟩;replace hO:=hO.below' hb5;have hb6:=hb2.trans (hb5.mono hb2.size);clear hb5 hb2;have hln:=dP l s k;have hr:Hid (iO l s k++[jm y sn]=iO l s (k+1)):=Lib.hid (by rw [HMR.out,hx.out,hms.out]);replace hO:=Lib.hid hO;go_wp2_with (at_builtin;(with_reducible refine qM aa2 (by decide) J4 (.tmp 59) (.tmp 63) ?_ ?_ ?_ hO.out (jm y sn) (Dp (jm y sn)) ?_ 61 ?_ ?_ ?_ ?_ (iO l s (k+1)) ?_ ?_);rfl;rfl;rfl;rfl;rfl;(rw [dP];omega);(rw [dP];omega);(exact hb6.size);(exact hr.out);(intro p9 c9 w6 yD gP di))
      go_roundw
      case rel=>exact ⟨k+1,p9,c9,by omega,by go_num,by rw [dP],by rw [dP] at yD;exact yD,hb6.trans gP⟩
      case measure=>simp [intOf]<;>omega
     ·have hq3:¬(m:Int)<(l.length:Int):=by omega
      have hx:Hid (P6 l s k=0):=Lib.hid (by unfold P6;rw [← hm.out,if_neg hin]);go_wp2_with fail;refine (Z9 _ 0 sn (by omega) hst).mono ?_;rintro e w5 ⟨rfl,hb5⟩;replace hO:=hO.below' hb5;have hb6:=hb2.trans (hb5.mono hb2.size);clear hb5 hb2;have hln:=dP l s k;have hr:Hid (iO l s k++[jm 0 sn]=iO l s (k+1)):=Lib.hid (by rw [HMR.out,hx.out,hms.out]);replace hO:=Lib.hid hO;go_wp2_with (at_builtin;(with_reducible refine qM aa2 (by decide) J4 (.tmp 59) (.tmp 63) ?_ ?_ ?_ hO.out (jm 0 sn) (Dp (jm 0 sn)) ?_ 61 ?_ ?_ ?_ ?_ (iO l s (k+1)) ?_ ?_);rfl;rfl;rfl;rfl;rfl;(rw [dP];omega);(rw [dP];omega);(exact hb6.size);(exact hr.out);(intro p9 c9 w6 yD gP di))
      go_roundw
      case rel=>exact ⟨k+1,p9,c9,by omega,by go_num,by rw [dP],by rw [dP] at yD;exact yD,hb6.trans gP⟩
      case measure=>simp [intOf]<;>omega
    ·obtain rfl:k=3:=by omega
     have Tx:=HM.out.mono hb2;have hO3:=hO.mono (HM.out.lo.2.2.2.2);have hlo:nb<B∧B≤wr.heap.size:=⟨Tx.lo.2.1,Tx.lo.2.2.2.2⟩
     have c1:wr.cell? ⟨nb,1,none⟩=some (.slice pr s kr):=by rw [Tx.row.cell?];rfl
     have f1:=Tx.row.frozen 1;have vD:=Tx.len;have hlen:(us++[dB p8 3 c8]).length=s+1:=by rw [eH,vD];rfl
     have HM3:=Lib.hid Tx;have Oz:=Lib.hid hlen;have HUS:=Lib.hid vD
     have HD:Hid (∀i (hi:i<us.length) k,(oV us[i]).ownBlock=some k→(oV (dB p8 3 c8)).ownBlock≠some k):=Lib.hid fun i hi k hk e=>by
      have h1:=((HM.out.each i hi).lt k hk).2;have h2:=(hO.lt k e).1;omega
     clear Tx hlen vD hO hb2 HM;rw [show ((3:Nat):Int)=3 from rfl];go_upto_region 19 with (at_builtin;(with_reducible refine fq aco (.tmp 66) (.tmp 68) ?_ ?_ bC ?_ HM3.out.own (dB p8 3 c8) _ ?_ _ ?_ ?_ ?_ ?_ (us++[dB p8 3 c8]) ?_ ?_);rfl;rfl;rfl;rfl;rfl;(rw [HUS.out];omega);(rw [HUS.out];omega);(exact hlo.2);rfl;(intro p3 c3 w3 hO4 hB4 hG4);(rw [Oz.out] at hO4 ⊢);(have e9:=(hB4.cell (p:=⟨nb,1,none⟩) hlo.1).trans c1);(have f9:=(hB4.frozen (p:=⟨nb,1,none⟩) hlo.1).trans f1));have Gr:=HM3.out.cells (dB p8 3 c8) hO3 _ HD.out hO4 hG4;clear hO4 hB4 hG4 e9 f9 c1 f1 hO3 HM3 Oz HUS;generalize (w3.setCell ⟨nb,1,none⟩ (.slice p3 (s+1) c3))=W5 at *;have Fx:=Gr.mono ((ak W5.heap.size W5).drew);obtain ⟨m,hm⟩:∃m:Nat,m=4+4 * s:=⟨_,rfl⟩
     have a5:4+4 * (s:Int)=(m:Int):=by omega
     have hmb:(m:Int)≤100:=by omega
     replace hm:=Lib.hid hm;by_cases hin:m<l.length
     ·have hq3:(m:Int)<(l.length:Int):=by omega
      have hq4:¬(l.length:Int)≤(m:Int):=by omega
      obtain ⟨b,o,rfl,hcl⟩:=HI.out m hin;have hee:Hid (AL l s=decide ((l[m]'hin).toNat % 4≠0)):=Lib.hid (by unfold AL;rw [← hm.out,if_pos hin,bK hin];rfl);have hyl:(l[m]'hin).toNat<256:=(l[m]'hin).toNat_lt;replace hcl:=Lib.hid hcl;generalize (l[m]'hin).toNat=y at *;have z1:(y:Int).tmod 4=((y % 4:Nat):Int):=by rw [Lp (by omega)];omega
      have z2:(y:Int) % 4=((y % 4:Nat):Int):=by omega
      generalize y % 4=z at *;replace hee:Hid (AL l s=((z:Int) !=0)):=Lib.hid (by rw [hee.out];by_cases h0:z=0<;>simp [h0]);refine aC (S:=fun X=>Below X2.heap.size X2 X∧Row oV X nb 37 [IP g 3 3,dB p3 (s+1) c3,dB pe s ke]) 20 rfl (by kernel_rfl) ⟨Gr.below.drew,Gr.row⟩ fun hS=> ?_;refine tk 0 71 (.pointer (some ⟨nb,2,none⟩)) hS ?_;refine tk 1 72 (.slice pe s ke) hS ?_ rfl (qi fun W' h=>by have q2:W'.cell? ⟨nb,2,none⟩=some (.slice pe s ke):=(by rw [h.2.cell?];rfl);go_simp);refine tk 2 73 (.int .i64 s) hS ?_;refine tk 3 74 (.int .i64 (4 * (s:Int))) hS ?_ rfl (yo fun w=>by go_simp<;>exact EA _ (by omega) (by omega));refine tk 4 75 (.int .i64 (m:Int)) hS ?_ rfl (yo fun w=>by go_simp<;>exact EA _ (by omega) (by omega));refine tk 5 76 (.slice (some ⟨b,o,none⟩) l.length c) hS ?_;refine tk 6 77 (.int .i64 (l.length:Int)) hS ?_ rfl (yo fun w=>by go_simp<;>exact EA _ (by omega) (by omega));refine tk 7 78 (.bool false) hS ?_ rfl (yo fun w=>by go_simp<;>exact EA _ (by omega) (by omega));refine tk 8 79 (.bool false) hS ?_;refine tk 9 80 (.slice (some ⟨b,o,none⟩) l.length c) hS ?_;refine tk 10 81 (.int .i64 s) hS ?_;refine tk 11 82 (.int .i64 (4 * (s:Int))) hS ?_ rfl (yo fun w=>by go_simp<;>exact EA _ (by omega) (by omega));refine tk 12 83 (.int .i64 (m:Int)) hS ?_ rfl (yo fun w=>by go_simp<;>exact EA _ (by omega) (by omega));refine tk 13 84 (.pointer (some ⟨b,o+m,none⟩)) hS ?_ rfl (yo fun w=>by go_simp<;>exact EA _ (by omega) (by omega));refine tk 14 85 (.int .u8 (y:Int)) hS ?_ rfl (qi fun W' h=>by have q2:=hcl.out W' h.1;go_simp);refine tk 15 86 (.int .u8 (z:Int)) hS ?_ rfl (yo fun w=>by go_simp<;>exact EA _ (by omega) (by omega));refine tk 16 87 (.bool ((z:Int) !=0)) hS ?_ rfl (yo fun w=>by go_simp<;>exact EA _ (by omega) (by omega));refine tk 17 88 (.bool ((z:Int) !=0)) hS ?_;refine iT 18 (fun K' hK=> ?_);have hba:=ah (ak W5.drew.heap.size W5.drew) (af _) (.cells #[.bool ((z:Int) !=0)] 4);refine tV (d:=89) (v:= .slice (some ⟨W5.drew.heap.size,0,none⟩) 1 1) (w':=W5.drew.alloc (.cells #[.bool ((z:Int) !=0)] 4)) rfl rfl (by first | rfl | kernel_rfl | (simp [execOp,go_sem];done)) ?_;refine hK.out _ _ (And.intro (hS.1.trans (hba.mono hS.1.size)) (hS.2.below hba hS.2.lt)) fun _=> ?_;clear hK hba;simp only [sA,sB,sC];refine iT 19 (fun K' hK=> ?_);refine jc (w:=W5.drew) (l:=jK l s) (v:= .slice pe s ke) abA (.tmp 72) (.tmp 89) 35 rfl rfl rfl RQ rfl Fx.ends ((z:Int) !=0) (.bool ((z:Int) !=0)) rfl 4 rfl (by rw [dQ];omega) (by rw [dQ];omega) Fx.lo.2.2.2.2 (jK l (s+1)) (by rw [Ci,hee.out]) ?_;intro p6 k6 w6 yD di _;rw [dQ] at yD;have hF:=Fx.flags _ yD di;refine hK.out _ _ (And.intro hF.1.2 hF.1.1) fun _=> ?_;clear hK hS;simp only [Act.put,dQ,Ae,El,xY];refine aL (by kernel_rfl) ?_;simp only [List.drop];have f2:=hF.1.1.frozen 2;have g2:w6.cell? ⟨nb,2,none⟩=some (.slice pe s ke):=by rw [hF.1.1.cell?];rfl
      have HF:=Lib.hid hF.2;clear hF yD di Gr Fx;go_wp2_with fail
      go_roundw
      case rel=>exact ⟨s+1,p3,p6,c3,k6,us++[dB p8 3 c8],by omega,by go_num,HF⟩
      case measure=>simp [intOf]<;>omega
     ·have hq3:¬(m:Int)<(l.length:Int):=by omega
      have hq4:(l.length:Int)≤(m:Int):=by omega
      have hee:Hid (AL l s=true):=Lib.hid (by unfold AL;rw [← hm.out,if_neg hin]);refine aC (S:=fun X=>Below X2.heap.size X2 X∧Row oV X nb 37 [IP g 3 3,dB p3 (s+1) c3,dB pe s ke]) 20 rfl (by kernel_rfl) ⟨Gr.below.drew,Gr.row⟩ fun hS=> ?_;refine tk 0 71 (.pointer (some ⟨nb,2,none⟩)) hS ?_;refine tk 1 72 (.slice pe s ke) hS ?_ rfl (qi fun W' h=>by have q2:W'.cell? ⟨nb,2,none⟩=some (.slice pe s ke):=(by rw [h.2.cell?];rfl);go_simp);refine tk 2 73 (.int .i64 s) hS ?_;refine tk 3 74 (.int .i64 (4 * (s:Int))) hS ?_ rfl (yo fun w=>by go_simp<;>exact EA _ (by omega) (by omega));refine tk 4 75 (.int .i64 (m:Int)) hS ?_ rfl (yo fun w=>by go_simp<;>exact EA _ (by omega) (by omega));refine tk 5 76 (.slice p l.length c) hS ?_;refine tk 6 77 (.int .i64 (l.length:Int)) hS ?_ rfl (yo fun w=>by go_simp<;>exact EA _ (by omega) (by omega));refine tk 7 78 (.bool true) hS ?_ rfl (yo fun w=>by go_simp<;>exact EA _ (by omega) (by omega));refine tk 8 79 (.bool true) hS ?_;refine uY 9 80 undef hS ?_;refine uY 10 81 undef hS ?_;refine uY 11 82 undef hS ?_;refine uY 12 83 undef hS ?_;refine uY 13 84 undef hS ?_;refine uY 14 85 undef hS ?_;refine uY 15 86 undef hS ?_;refine uY 16 87 undef hS ?_;refine tk 17 88 (.bool true) hS ?_;refine iT 18 (fun K' hK=> ?_);have hba:=ah (ak W5.drew.heap.size W5.drew) (af _) (.cells #[.bool true] 4);refine tV (d:=89) (v:= .slice (some ⟨W5.drew.heap.size,0,none⟩) 1 1) (w':=W5.drew.alloc (.cells #[.bool true] 4)) rfl rfl (by first | rfl | kernel_rfl | (simp [execOp,go_sem];done)) ?_;refine hK.out _ _ (And.intro (hS.1.trans (hba.mono hS.1.size)) (hS.2.below hba hS.2.lt)) fun _=> ?_;clear hK hba;simp only [sA,sB,sC];refine iT 19 (fun K' hK=> ?_);refine jc (w:=W5.drew) (l:=jK l s) (v:= .slice pe s ke) abA (.tmp 72) (.tmp 89) 35 rfl rfl rfl RQ rfl Fx.ends true (.bool true) rfl 4 rfl (by rw [dQ];omega) (by rw [dQ];omega) Fx.lo.2.2.2.2 (jK l (s+1)) (by rw [Ci,hee.out]) ?_;intro p6 k6 w6 yD di _;rw [dQ] at yD;have hF:=Fx.flags _ yD di;refine hK.out _ _ (And.intro hF.1.2 hF.1.1) fun _=> ?_;clear hK hS;simp only [Act.put,dQ,Ae,El,xY];refine aL (by kernel_rfl) ?_;simp only [List.drop];have f2:=hF.1.1.frozen 2;have g2:w6.cell? ⟨nb,2,none⟩=some (.slice pe s ke):=by rw [hF.1.1.cell?];rfl
      have HF:=Lib.hid hF.2;clear hF yD di Gr Fx;go_wp2_with fail
      go_roundw
      case rel=>exact ⟨s+1,p3,p6,c3,k6,us++[dB p8 3 c8],by omega,by go_num,HF⟩
      case measure=>simp [intOf]<;>omega
  ·obtain rfl:s=sn:=by omega
   have hM:=HM.out;have hwB:w.heap.size<B:=by have:=hM.lo.1;have:=hM.lo.2.1;omega
   have hr0:=Kc.out.below hM.below hlr;have dO:=HB0.out.trans (hM.below.mono (by omega));have hrow:=hM.row
   go_wp2_with (first
    | ((with_reducible refine zL hrow.at sH rfl (C:=#[.slice (some ⟨g,0,none⟩) 3 3, .slice pr s kr, .slice pe s ke]) ?_))
    | ((with_reducible refine zS (l':=[IP g 3 3,dB pr s kr,dB pe s ke]) hr0 sH ?_);(intro Y Nr DK hzY)))
   refine bodyPost_ret (v:= .agg #[.slice (some ⟨g,0,none⟩) 3 3, .slice pr s kr, .slice pe s ke]) (aQ (f:=oV) (l:=[IP g 3 3,dB pr s kr,dB pe s ke]) rfl _ sH w.heap.size 0 rfl Nr.at) rfl ?_;rw [hsn];exact ⟨B,g,nb,pr,pe,kr,ke,us,X2,_,rfl,hM,dO,hr0,Kc.out.lt,bJ Kc.out.lt HG.out,DK⟩
theorem Sw (W:World):jF ((W.alloc (.cells #[] 5)).alloc (.cells #[.slice (some ⟨W.heap.size,0,none⟩) 0 0] 22)) W.heap.size (.slice (some ⟨W.heap.size+1,0,none⟩) 1 1) [[]]:=by
 refine ⟨[dB (some ⟨W.heap.size,0,none⟩) 0 0],rfl,?_,fun i h h2=> ?_⟩
 ·have h:=Own.new (f:=oV) (l:=[dB (some ⟨W.heap.size,0,none⟩) 0 0]) (W.alloc (.cells #[] 5)) (.cells #[.slice (some ⟨W.heap.size,0,none⟩) 0 0] 22) (e:=22) W.heap.size (by simp) rfl (by unfold maxLen;simp);simpa using h
 ·have:i=0:=by simp at h;omega
  subst this;exact (Own.new (f:=aV) (l:=[]) W (.cells #[] 5) W.heap.size (af _) rfl (by unfold maxLen;simp)).alloc _
theorem O5 (w:World) (pa:Option Addr) (ka:Nat) (al:List UInt8) (most:Nat) (hva:Rd aV w (.slice pa al.length ka) al) (ha:al.length≤4) (hm:most≤8) (hlen:(Sc.upTo al (most+1)).length≤4096):
  Calls Tryz.prog 11 #[.agg #[.slice pa al.length ka, .int .i64 most]] w fun e w'=>∃p c,e= .returned (.slice p (Sc.upTo al (most+1)).length c)∧jF w' w.heap.size (.slice p (Sc.upTo al (most+1)).length c) (Sc.upTo al (most+1))∧Below w.heap.size w w':=by
 have IY:=Lib.hid hva;clear hva;go_enter Tryz.func11,Tryz.ntmps11;go_upto_region 1 with (fail)
 obtain ⟨W,hW,hB,hs,g0⟩:∃W,(w.alloc (.cells #[.slice pa al.length ka, .int .i64 most] 30))=W∧Below w.heap.size w W∧w.heap.size+1≤W.heap.size∧W.heap[w.heap.size]?=some (.cells #[.slice pa al.length ka, .int .i64 most] 30 (0,0)):=
  ⟨_,rfl,ah (ak _ _) (af _) _,by simp,World.alloc_heap_new _ _⟩
 rw [hW];clear hW
 have Q5:Hid (∀X,Below W.heap.size W X→X.cell? ⟨w.heap.size,0,none⟩=some (.slice pa al.length ka)∧X.cell? ⟨w.heap.size,1,none⟩=some (.int .i64 most)∧Rd aV X (.slice pa al.length ka) al):=Lib.hid fun X hX=>by
  have h:=(hX.block w.heap.size (by omega)).trans g0;refine ⟨?_,?_,(IY.out.below hB).below hX⟩<;>(unfold World.cell?;rw [h];rfl)
 clear g0 IY;have hL0:=Sw W;have hb0:Below W.heap.size W ((W.alloc (.cells #[] 5)).alloc (.cells #[.slice (some ⟨W.heap.size,0,none⟩) 0 0] 22)):=ah (ah (ak _ _) (af _) _) (af _) _;replace hL0:=Lib.hid hL0;replace hb0:=Lib.hid hb0;go_upto_region 4 with (fail);generalize ((W.alloc (.cells #[] 5)).alloc (.cells #[.slice (some ⟨W.heap.size,0,none⟩) 0 0] 22))=W1 at *;replace hlen:=Lib.hid hlen
 go_loopw [3,4,5] (fun s3 s4 s5 wr=>∃(n:Nat) (p:Option Addr) (c:Nat),n≤most∧s5= .int .i64 n∧s4= .int .i64 (Sc.upTo al n).length∧s3= .slice p (Sc.upTo al (n+1)).length c∧Hid (jF wr W.heap.size (.slice p (Sc.upTo al (n+1)).length c) (Sc.upTo al (n+1)))∧Below W.heap.size W wr) (fun _ _ i _=>most - (intOf i).toNat)
 case atStart=>exact ⟨0,_,_,by omega,rfl,rfl,rfl,hL0,hb0.out⟩
 case round=>
  clear hL0 hb0 W1;obtain ⟨n,p,c,hn,rfl,rfl,rfl,HL,hb⟩:=hrel;obtain ⟨q0,q1,q2⟩:=Q5.out _ hb;replace q2:=Lib.hid q2;by_cases hlt:n<most
  ·have hq:(n:Int)<(most:Int):=by omega
   obtain ⟨U,V,fr,hU,hfr,hUl,hUV,Bq,hUg,hVl⟩:=Qu al most n hlt hm hlen.out;rw [← hU] at HL ⊢;rw [← hfr];have hU4:U.length≤4096:=by rw [eH] at Bq;omega
   replace hUl:=Lib.hid hUl;replace hU:=Lib.hid hU;replace hfr:=Lib.hid hfr;replace hUV:=Lib.hid hUV;replace hUg:=Lib.hid hUg;replace hVl:=Lib.hid hVl;go_wp2_with fail;clear q0 q1 q2
   go_loopw [3,7] (fun s3 s7 wq=>∃(x d:Nat) (p:Option Addr) (c:Nat),x=fr+d∧d≤V.length∧s7= .int .i64 x∧s3= .slice p (U++Sc.bS al (V.take d)).length c∧Hid (jF wq W.heap.size (.slice p (U++Sc.bS al (V.take d)).length c) (U++Sc.bS al (V.take d)))∧Below W.heap.size W wq) (fun _ j _=>fr+V.length - (intOf j).toNat)
   case atStart=>
    have e0:U++Sc.bS al (V.take 0)=U:=by simp [Sc.bS]
    exact ⟨fr,0,p,c,by omega,by omega,rfl,by rw [e0],by rw [e0];exact HL,hb⟩
   case round=>
    clear HL hb;obtain ⟨x,d,p,c,hx,hd,rfl,rfl,HL,hb⟩:=hrel;by_cases hdl:d<V.length
    ·have hqx:(x:Int)<(U.length:Int):=by have:=hUl.out;omega
     obtain ⟨A,wd,hA,hwd,hAn,hAm,hAx,hAg⟩:=SN al U V fr d hUl.out Bq hUg.out hdl;have hwl:wd.length≤8:=by rw [hwd];exact hVl.out d hdl
     rw [← hA] at HL ⊢;rw [← hx] at hAx hAg;replace hx:=Lib.hid hx;replace hA:=Lib.hid hA;replace hwd:=Lib.hid hwd;replace hAn:=Lib.hid hAn;replace hAg:=Lib.hid hAg;go_wp2_with fail
     go_loopw [3,8] (fun s3 s8 wr=>∃(k:Nat) (p:Option Addr) (c:Nat),k≤al.length∧s8= .int .i64 k∧s3= .slice p (A++(al.take k).map fun b=>wd++[b]).length c∧Hid (jF wr W.heap.size (.slice p (A++(al.take k).map fun b=>wd++[b]).length c) (A++(al.take k).map fun b=>wd++[b]))∧Below W.heap.size W wr) (fun _ j _=>al.length - (intOf j).toNat)
     case atStart=>
      have e0:(A++(al.take 0).map fun b=>wd++[b])=A:=by simp
      exact ⟨0,p,c,by omega,rfl,by rw [e0],by rw [e0];exact HL,hb⟩
     case round=>
      clear HL hb;obtain ⟨k,p,c,hk,rfl,rfl,HL,hb⟩:=hrel;obtain ⟨q0,q1,q2⟩:=Q5.out _ hb;by_cases hkl:k<al.length
      ·have hqk:(k:Int)<(al.length:Int):=by omega
       have hMT:=Lib.hid (Sc.map_take al wd k hkl);have hml:((al.take k).map fun b=>wd++[b]).length=k:=by simp;omega
       have hAB:x<(A++(al.take k).map fun b=>wd++[b]).length:=by rw [eH];omega
       have hgx:=hAg.out _ hAB;obtain ⟨B,hB0⟩:∃B,B=(A++(al.take k).map fun b=>wd++[b]):=⟨_,rfl⟩
       have hBl:B.length≤4096:=by rw [hB0,eH,hml];omega
       have afM:x<B.length:=by rw [hB0];exact hAB
       have aas:B[x]=wd:=by simp only [hB0];exact hgx
       rw [← hB0] at HL ⊢;replace aas:=Lib.hid aas;replace hB0:=Lib.hid hB0;clear hgx hAB hml;obtain ⟨bl,qw,mw,cw,rfl,cc,hmw,BG⟩:=HL.out.elem x afM;rw [aas.out] at hmw BG;subst hmw
       obtain ⟨bv,ov,rfl,XH⟩:∃b o,pa=some ⟨b,o,none⟩∧∀X,Below W.heap.size W X→X.cell? ⟨b,o+k,none⟩=some (.int .u8 (al[k].toNat:Int)):=by
        rcases q2 with ⟨_,_,h0⟩ | ⟨b,o,cap,h1,_,ha,_⟩
        ·rw [h0] at hkl;simp at hkl
        ·cases h1;refine ⟨b,o,rfl,fun X hX=> ?_⟩;rcases (Q5.out _ hX).2.2 with ⟨_,_,h0⟩ | ⟨b,o,cap,h1,_,ha,_⟩
         ·rw [h0] at hkl;simp at hkl
         ·cases h1;exact (ha k hkl).trans (by rw [bK hkl];rfl)
       replace XH:=Lib.hid XH;clear q2;have uR:Mem.Own aV (wr.alloc (.cells #[] 5)) wr.heap.size 5 (.slice (some ⟨wr.heap.size,0,none⟩) 0 0) ([]:List UInt8):=Own.new wr _ wr.heap.size (af _) rfl (by simp);have hba:=ah (ak wr.heap.size wr) (af _) (.cells #[] 5);have mF:=BG.rd.below hba
       have cca:(wr.alloc (.cells #[] 5)).cell? ⟨bl,x,none⟩=some (.slice qw wd.length cw):=by
        have hbl:=(HL.out.row bl rfl).2;rw [hba.cell (p:=⟨bl,x,none⟩) hbl];exact cc
       have hbs:=hb.size;clear BG;go_upto_region 14 with (at_builtin;(with_reducible refine KJ yH (.tmp 33) (.tmp 37) ?_ ?_ kY ?_ uR wd _ ?_ mF ?_ ?_ ?_ wd ?_ ?_);rfl;rfl;rfl;rfl;(simp;omega);(simp;omega);(simp);rfl;intro p1 c1 W1 lK hB1 hG1);have Vn:Below wr.heap.size wr W1:=hba.trans hB1;clear cc cca mF uR hB1 hG1 hba q0 q1;obtain ⟨q0,q1,_⟩:=Q5.out _ (hb.trans (Vn.mono hbs));have qa:=XH.out _ (hb.trans (Vn.mono hbs));have adM:=Vn.size;go_upto_region 15 with (at_builtin;(with_reducible refine fq yH (.tmp 39) (.tmp 45) ?_ ?_ kY ?_ lK al[k] _ ?_ _ ?_ ?_ ?_ ?_ (wd++[al[k]]) ?_ ?_);rfl;rfl;rfl;rfl;rfl;(omega);(omega);(exact adM);rfl;(intro p2 c2 W2 hO2 hB2 hG2));have yt:(wd++[al[k]]).length=wd.length+1:=by simp
       rw [yt] at hO2
       try rw [yt]
       clear yt;have hB2':Below wr.heap.size wr W2:=Vn.trans hB2;obtain ⟨vals,hv1,hv2,hv3⟩:=HL.out;have HV:=Lib.hid hv3;have K6:=hv2.below' hB2';rw [← hv1] at K6 ⊢;have hvl:vals.length≤4096:=by omega
       replace hv1:=Lib.hid hv1;clear hv2 hv3 q0 q1 qa lK hB2 hG2 adM;have agQ:=hB2'.size;go_wp2_with (at_builtin;(with_reducible refine fq Zc (.tmp 47) (.tmp 49) ?_ ?_ bC ?_ K6 (dB p2 (wd.length+1) c2) _ ?_ _ ?_ ?_ ?_ ?_ (vals++[dB p2 (wd.length+1) c2]) ?_ ?_);rfl;rfl;rfl;rfl;rfl;(omega);(omega);(omega);rfl;(intro p3 c3 W3 hO3 hB3 hG3))
       go_roundw
       case rel=>
        have Qf:=K6.alloc (.cells #[.slice p2 (wd.length+1) c2] 22);have hnew:Mem.Own aV W3 W.heap.size 5 (.slice p2 (wd.length+1) c2) (wd++[al[k]]):=((hO2.mono hbs).alloc _).dW hG3 (l8 (hO2.alloc _) Qf (by decide))
        have hold:∀a (h:a<vals.length) (h2:a<B.length),Mem.Own aV W3 W.heap.size 5 (oV vals[a]) B[a]:=fun a h h2=>
         (((HV.out a h h2).below' hB2').alloc _).dW hG3 (l8 (((HV.out a h h2).below' hB2').alloc _) Qf (by decide))
        have hsn:=jF.snoc (x:=dB p2 (wd.length+1) c2) hv1.out hold hnew hO3;have he:B++[wd++[al[k]]]=(A++(al.take (k+1)).map fun b=>wd++[b]):=by rw [hB0.out,hMT.out,zD]
        have hl3:(vals++[dB p2 (wd.length+1) c2]).length=(B++[wd++[al[k]]]).length:=by rw [eH,eH,hv1.out];rfl
        have hl4:vals.length+1=(A++(al.take (k+1)).map fun b=>wd++[b]).length:=by rw [← he,← hl3];simp
        rw [hl3,he] at hsn;exact ⟨k+1,p3,c3,by omega,by go_num,by rw [hl4],Lib.hid hsn,(hb.trans (hB2'.mono hbs)).trans (hB3.mono (af _))⟩
       case measure=>simp [intOf]<;>omega
      ·obtain rfl:k=al.length:=by omega
       have hqk:¬(al.length:Int)<(al.length:Int):=by omega
       rw [pM (af _),hAn.out] at HL ⊢;go_wp2_with fail
       go_roundw
       case rel=>exact ⟨x+1,d+1,p,c,by have:=hx.out;omega,by omega,by go_num,rfl,HL,hb⟩
       case measure=>
        have:=hx.out;simp [intOf]<;>omega
    ·obtain rfl:d=V.length:=by omega
     have hqx:¬(x:Int)<(U.length:Int):=by have:=hUl.out;omega
     replace hx:=Lib.hid hx;rw [pM (af _),hUV.out] at HL ⊢;have hUe:=hU.out;replace hUe:=Lib.hid hUe;go_wp2_with fail
     go_roundw
     case rel=>exact ⟨n+1,p,c,by omega,by go_num,by rw [hUe.out],rfl,HL,hb⟩
     case measure=>simp [intOf]<;>omega
  ·have he:n=most:=by omega
   subst he;have hq:¬(n:Int)<(n:Int):=by omega
   go_wp2_with fail;go_ret;exact ⟨p,c,rfl,HL.out.mono hB.size,hB.trans (hb.mono hB.size)⟩
end
end Go.Proofs.YtncnfncglacheaaGreatDoor
