/- Part of a proof. -/
import Derived.IntWalk
import Derived.Test.YtngjelolnfgnbaaGreatDoorMWords
import Derived.Below
import Derived.Laws.AppendOwn
import Derived.Deep.Draws
import Derived.RangeFuncSeq
import Derived.Deep.QuietTactic
import Derived.WalkSmall
set_option linter.all false
set_option maxRecDepth 100000
set_option maxHeartbeats 64000000
namespace Go.Proofs.YtngjelolnfgnbaaGreatDoor
namespace Mem
open Go Go.RowKit
def Row {α:Type} (f:α→Value) (w:World) (b:Nat) (t:TypeId) (l:List α):Prop:=w.heap[b]?=some (.cells (l.map f).toArray t (0,0))
variable {α:Type} {f:α→Value} {w:World} {b:Nat} {t:TypeId} {l:List α}
theorem Row.lt (h:Row f w b t l):b<w.heap.size:=(qM.1 h).1
theorem Row.cell? (h:Row f w b t l) (i:Nat):w.cell? ⟨b,i,none⟩=(l[i]?).map f:=by
 unfold World.cell?;rw [h];simp
theorem Row.cell (h:Row f w b t l) (d:α) (i:Nat) (hi:i<l.length):w.cell? ⟨b,i,none⟩=some (f (l[i]?.getD d)):=by
 rw [h.cell?,dR hi];simp
theorem Row.frozen (h:Row f w b t l) (i:Nat):w.frozen? ⟨b,i,none⟩=false:=by
 unfold World.frozen?;rw [h];simp
theorem Row.set (h:Row f w b t l) (i:Nat) (x:α):Row f (w.setCell ⟨b,i,none⟩ (f x)) b t (l.set i x):=by
 have hb:=h.lt;have h':=h;unfold Row at *;simp only [World.setCell,CB,h'];simp [List.map_set]
theorem Row.aB (h:Row f w b t l) {b':Nat} (hb:b≠b') (i:Nat) (v:Value):Row f (w.setCell ⟨b',i,none⟩ v) b t l:=by
 unfold Row at *;rw [Below.heap_setCell _ _ _ _ hb];exact h
theorem Row.drew (h:Row f w b t l):Row f w.drew b t l:=h
theorem Row.drewN (h:Row f w b t l) (n:Nat):Row f (w.drewN n) b t l:=h
theorem Row.alloc (h:Row f w b t l) (o:Obj):Row f (w.alloc o) b t l:=by
 unfold Row at *;rw [oI _ _ _ (qM.1 h).1];exact h
theorem Row.below {w':World} {B:Nat} (h:Row f w b t l) (hb:Below B w w') (hB:b<B):Row f w' b t l:=by
 unfold Row at *;rw [hb.block b hB];exact h
theorem Row.new (w:World) (o:Obj) (h:o= .cells (l.map f).toArray t (0,0)):Row f (w.alloc o) w.heap.size t l:=by
 subst h;exact World.alloc_heap_new w _
theorem wI (n:Int) (h:0≤n) (h2:n≤4611686018427387904):IntKind.i64.wrap n=n:=IntWalk.i64_in _ (by omega)
theorem aL {w w':World} (h:Below w.heap.size w w') (row:Option Nat):w.grownBy w' row:=
 ⟨h.os,h.tape,h.output,h.size,fun k hk _=>h.block k hk⟩
theorem eP {w w':World} {b:Nat} (h:w.grownBy w' (some b)) (i:Nat) (v:Value):w.grownBy (w'.setCell ⟨b,i,none⟩ v) (some b):=
 ⟨h.os,h.tape,h.output,by simpa using h.size,fun k hk hne=>(Below.heap_setCell _ _ _ _ (by intro e;exact hne (by rw [e]))).trans (h.block k hk hne)⟩
theorem qw {w w':World} {r:Option Nat} (h:w.grownBy w' r):w.grownBy w'.drew r:=⟨h.os,h.tape,h.output,h.size,h.block⟩
theorem Row.grown {w':World} {row:Option Nat} (h:Row f w b t l) (hg:w.grownBy w' row) (hne:some b≠row):Row f w' b t l:=by
 unfold Row at *;rw [hg.block b (qM.1 h).1 hne];exact h
theorem Hu (n:Int) (h: -4611686018427387904≤n) (h2:n≤4611686018427387904):IntKind.i64.wrap n=n:=IntWalk.i64_in _ (by omega)
def bg (x:UInt8):Value:= .int .u8 (x.toNat:Int)
def At {α:Type} (f:α→Value) (w:World) (b o:Nat) (l:List α):Prop:=∀i,i<l.length→w.cell? ⟨b,o+i,none⟩=(l[i]?).map f
theorem At.cell {o:Nat} (h:At f w b o l) (d:α) (i:Nat) (hi:i<l.length):w.cell? ⟨b,o+i,none⟩=some (f (l[i]?.getD d)):=by
 rw [h i hi,dR hi];simp
theorem At.below {o:Nat} {w':World} {B:Nat} (h:At f w b o l) (hb:Below B w w') (hB:b<B):At f w' b o l:=
 fun i hi=>(hb.cell (p:=⟨b,o+i,none⟩) hB).trans (h i hi)
theorem At.grown {w':World} {row:Option Nat} {o:Nat} (h:At f w b o l) (hg:w.grownBy w' row) (hb:b<w.heap.size) (hne:some b≠row):At f w' b o l:=
 fun i hi=>(uK (a:=⟨b,o+i,none⟩) (hg.block b hb hne)).trans (h i hi)
theorem Row.at (h:Row f w b t l):At f w b 0 l:=fun i _=>by rw [h.cell?];simp
end Mem
end Go.Proofs.YtngjelolnfgnbaaGreatDoor
