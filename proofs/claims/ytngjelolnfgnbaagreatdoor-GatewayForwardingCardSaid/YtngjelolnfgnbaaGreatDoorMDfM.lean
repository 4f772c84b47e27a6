/- Part of a proof. -/
import Derived.Test.YtngjelolnfgnbaaGreatDoorMClass
import Derived.Test.YtngjelolnfgnbaaGreatDoorMRdB
import Derived.Laws.StructEq
import Derived.ChangeKeysEq
set_option linter.all false
set_option maxRecDepth 100000
set_option maxHeartbeats 64000000
namespace Go.Proofs.YtngjelolnfgnbaaGreatDoor
open Go Go.RowKit Mem
abbrev rA:=vY (Rd nV)
theorem rA.below' {w w':World} {v:Value} {l:List (List Nat)} (h:rA w v l) (hb:Below w.heap.size w w'):rA w' v l:=vY.below h hb fun _ _ h=>h.below hb
def En (w:World) (v:Value) (D:DF):Prop:=∃vc vn va,v= .agg #[vc,vn,va]∧fq 4 aS w vc D.cls∧rA w vn D.nx∧Rd Value.bool w va D.ac
theorem En.below {w w':World} {v:Value} {D:DF} (h:En w v D) (hb:Below w.heap.size w w'):En w' v D:=by
 obtain ⟨vc,vn,va,rfl,h1,h2,h3⟩:=h;exact ⟨vc,vn,va,rfl,h1.below hb,rA.below' h2 hb,h3.below hb⟩
def Da (l:List Cl) (k:Nat):Cl:=(l.take k).foldl Cl.union kE
structure DF.V (D:DF):Prop extends DF.Ok D where
 n64:D.nx.length≤64
 ne:∀c∈D.cls,c≠kE
 dj:∀k (h:k<D.cls.length),(Da D.cls k).inter D.cls[k]=kE
 un:(Da D.cls D.cls.length).non=kE
end Go.Proofs.YtngjelolnfgnbaaGreatDoor
