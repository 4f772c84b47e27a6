/- Part of a proof. -/
import Derived.Test.YtngjelolnfgnbaaGreatDoorMWalk
import Derived.Test.YtngjelolnfgnbaaGreatDoorMClone8
import Derived.WalkMore
set_option linter.all false
set_option maxRecDepth 100000
set_option maxHeartbeats 64000000
namespace Go.Proofs.YtngjelolnfgnbaaGreatDoor
section
open Go.RowKit Mem
theorem Mem.Own.cK {α:Type} {f:α→Value} {w w':World} {base:Nat} {e:TypeId} {v:Value} {l:List α} (h:Mem.Own f w base e v l) {row:Option Nat} (hg:w.grownBy w' row)
  (hr:∀g,v.ownBlock=some g→some g≠row):Mem.Own f w' base e v l:=by
 refine ⟨h.1,?_⟩;rcases h.2 with hn | ⟨g,cap,cur,rfl,hbg,hc,rest⟩
 ·exact .inl hn
 ·exact .inr ⟨g,cap,cur,rfl,hbg,(hg.block g (qM.1 hc).1 (hr g rfl)).trans hc,rest⟩
theorem Mem.Rd.cK {α:Type} {f:α→Value} {w w':World} {v:Value} {l:List α} (h:Rd f w v l) {row:Option Nat} (hg:w.grownBy w' row)
  (hr:∀g,v.ownBlock=some g→some g≠row):Rd f w' v l:=by
 rcases h with hn | ⟨b,o,cap,rfl,hc,ha,hlt⟩
 ·exact .inl hn
 ·exact .inr ⟨b,o,cap,rfl,hc,ha.grown hg hlt (hr b rfl),bY hlt hg.size⟩
end
section
open Go Go.RowKit Mem
theorem lZ {w W W':World} {o:Obj} (h:Below w.heap.size w W) (hG:(W.alloc o).grownBy W' (some W.heap.size)):Below w.heap.size w W':=
 (ai h (aj _) o).grown hG (gp h.size (by simp)) (fun k e=>by cases e;exact h.size)
theorem tL {w:World} {b i:Nat} {t:TypeId} {v:Value} (h:Row oV w b t [on,on]) (hv:w.cell? ⟨b,i,none⟩=some v):v= .slice none 0 0:=by
 rw [h.cell?] at hv
 match i with
 | 0=>cases hv;rfl
 | 1=>cases hv;rfl
 | (k+2)=>cases hv
theorem FP.result {w w':World} {v:Value} {nm:ByteArray} {b:Nat} {t:TypeId} (h:FP w v nm) (hG:w.grownBy w' (some b)) (hr:Row oV w b t [on,on]):FP w' v nm:=by
 obtain ⟨sb,so,sc,bb,bo,bc,ib,io,ic,rfl,hcap,⟨h1,l1⟩,⟨h2,l2⟩,h3,l3⟩:=h
 have n1:some sb≠some b:=fun e=>by
  injection e with e;subst e
  have:=tL hr (h1 0 (by rw [yF];omega));cases this
 have n2:some bb≠some b:=fun e=>by
  injection e with e;subst e
  have:=tL hr h2;cases this
 have n3:some ib≠some b:=fun e=>by
  injection e with e;subst e
  have:=tL hr h3;cases this
 exact ⟨sb,so,sc,bb,bo,bc,ib,io,ic,rfl,hcap,⟨h1.grown hG l1 n1,bY l1 hG.size⟩,⟨(uK (a:=⟨bb,bo,none⟩) (hG.block bb l2 n2)).trans h2,bY l2 hG.size⟩,(uK (a:=⟨ib,io,none⟩) (hG.block ib l3 n3)).trans h3,bY l3 hG.size⟩
end
end Go.Proofs.YtngjelolnfgnbaaGreatDoor
