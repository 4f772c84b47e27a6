/- Part of a proof. -/
import Derived.WideMake
import Derived.Test.YtngjelolnfgnbaaGreatDoorMTbM
set_option linter.all false
set_option maxRecDepth 100000
set_option maxHeartbeats 64000000
namespace Go.Proofs.YtngjelolnfgnbaaGreatDoor
open Go Go.RowKit Mem
namespace Mem
theorem Own.block {α:Type} {f:α→Value} {w:World} {base:Nat} {e:TypeId} {p:Option Addr} {n c:Nat} {l:List α} (h:Own f w base e (.slice p n c) l) (hl:0<l.length):∃g,p=some ⟨g,0,none⟩∧base≤g∧g<w.heap.size∧n=l.length∧n≤c∧At f w g 0 l∧w.frozen? ⟨g,0,none⟩=false:=by
 have hat:=h.at;rcases h.2 with ⟨he,h0⟩ | ⟨g,cap,cur,he,hb,hg,hn,hm,_⟩
 ·exact absurd h0 (by rw [tQ];intro e;rw [e] at hl;simp at hl)
 ·injection he with e1 e2 e3
  subst e1 e2 e3;refine ⟨g,rfl,hb,(qM.1 hg).1,rfl,hn,hat g rfl,?_⟩;unfold World.frozen?;rw [hg];rfl
end Mem
end Go.Proofs.YtngjelolnfgnbaaGreatDoor
