/- dialect.Valid and resolve.Check of the zero program. -/
import Derived.Stop.BytesEq
import Derived.Test.YtncnfncglacheaaGreatDoorMClass
import Derived.Test.YtncnfncglacheaaGreatDoorMCells
import Derived.Laws.EntriesVeiled
import Derived.WideLaws
import Derived.Test.YtncnfncglacheaaGreatDoorMTree
namespace Go.Proofs.YtncnfncglacheaaGreatDoor
open Go Go.RowKit Mem
set_option maxRecDepth 100000
structure Upd (E:Nat→Prop) (w w':World):Prop where
 os:w'.os=w.os
 tape:w'.tape=w.tape
 output:w'.output=w.output
 size:w.heap.size≤w'.heap.size
 block:∀k,k<w.heap.size→¬E k→w'.heap[k]?=w.heap[k]?
section
variable {E E':Nat→Prop} {w w' w2:World}
theorem Upd.refl (E:Nat→Prop) (w:World):Upd E w w:=⟨rfl,rfl,rfl,Nat.le_refl _,fun _ _ _=>rfl⟩
theorem Upd.trans (h:Upd E w w') (h2:Upd E' w' w2) (he:∀k,k<w.heap.size→E' k→E k):Upd E w w2:=
 ⟨h2.os.trans h.os,h2.tape.trans h.tape,h2.output.trans h.output,Nat.le_trans h.size h2.size,fun k hk hn=>(h2.block k (Nat.lt_of_lt_of_le hk h.size) (fun e=>hn (he k hk e))).trans (h.block k hk hn)⟩
theorem Upd.below (h:Upd E w w') {K:Nat} (hb:Below K w' w2) (hK:w.heap.size≤K):Upd E w w2:=
 ⟨hb.os.trans h.os,hb.tape.trans h.tape,hb.output.trans h.output,Nat.le_trans h.size hb.size,fun k hk hn=>(hb.block k (by omega)).trans (h.block k hk hn)⟩
theorem Upd.of_below (E:Nat→Prop) {K:Nat} (hb:Below K w w') (hK:w.heap.size≤K):Upd E w w':=(Upd.refl E w).below hb hK
theorem Upd.drew (h:Upd E w w'):Upd E w w'.drew:=⟨h.os,h.tape,h.output,h.size,h.block⟩
theorem Upd.alloc (h:Upd E w w') (o:Obj):Upd E w (w'.alloc o):=h.below ((Below.refl w'.heap.size w').alloc (Nat.le_refl _) o) h.size
theorem Upd.set (h:Upd E w w') {b:Nat} (hb:E b∨w.heap.size≤b) (i:Nat) (v:Value):Upd E w (w'.setCell ⟨b,i,none⟩ v):=
 ⟨h.os,h.tape,h.output,by simpa using h.size,fun k hk hn=>(Below.heap_setCell _ _ _ _ (by
  rintro rfl
  rcases hb with hb | hb
  ·exact hn hb
  ·exact absurd hk (Nat.not_lt.2 hb))).trans (h.block k hk hn)⟩
theorem Upd.grown (h:Upd E w w') {r:Option Nat} (hg:w'.grownBy w2 r) (hr:∀b,r=some b→E b∨w.heap.size≤b):Upd E w w2:=
 ⟨hg.os.trans h.os,hg.tape.trans h.tape,hg.output.trans h.output,Nat.le_trans h.size hg.size,fun k hk hn=>(hg.block k (Nat.lt_of_lt_of_le hk h.size) (fun e=>by
  rcases hr k e.symm with hb | hb
  ·exact hn hb
  ·omega)).trans (h.block k hk hn)⟩
theorem Upd.toBelow (h:Upd E w w') {K:Nat} (hK:K≤w.heap.size) (hE:∀k,k<K→¬E k):Below K w w':=
 ⟨h.os,h.tape,h.output,h.size,fun k hk=>h.block k (by omega) (hE k hk)⟩
theorem Upd.cell (h:Upd E w w') {b i:Nat} (hb:b<w.heap.size) (hn:¬E b):w'.cell? ⟨b,i,none⟩=w.cell? ⟨b,i,none⟩:=World.cell?_of_block (a:=⟨b,i,none⟩) (h.block b hb hn)
theorem _root_.Go.Proofs.YtncnfncglacheaaGreatDoor.Mem.Row.upd {α:Type} {f:α→Value} {b:Nat} {t:TypeId} {l:List α} (h:Row f w b t l) (hu:Upd E w w') (hn:¬E b):Row f w' b t l:=(hu.block b h.lt hn).trans h
end
structure WEnv where
 w0:World
 ss:Sl
 bs:Sl
 pb:Nat
 rb:Nat
 qb:Nat
 wb:Nat
 bb:Nat
 tb:Nat
def WEnv.E (V:WEnv) (lp:Option Nat) (k:Nat):Prop:=k=V.rb∨k=V.qb∨lp=some k
structure WFix (V:WEnv) (S:List St) (B:List (List Int)) (X:World):Prop where
 below:Below V.w0.heap.size V.w0 X
 pg:PgM V.w0 V.ss V.bs S B
 box:PgBox X V.pb V.ss V.bs
 cw:X.cell? ⟨V.wb,0,none⟩=some (.func (.func 110) #[] #[.pointer (some ⟨V.rb,0,none⟩)])
 cb:X.cell? ⟨V.bb,0,none⟩=some (.func (.func 113) #[] #[.pointer (some ⟨V.pb,0,none⟩), .pointer (some ⟨V.tb,0,none⟩)])
 ct:X.cell? ⟨V.tb,0,none⟩=some (.func (.func 111) #[] #[.pointer (some ⟨V.pb,0,none⟩), .pointer (some ⟨V.rb,0,none⟩), .pointer (some ⟨V.wb,0,none⟩), .pointer (some ⟨V.bb,0,none⟩)])
 lt:V.w0.heap.size≤V.pb∧V.w0.heap.size≤V.rb∧V.w0.heap.size≤V.qb∧V.w0.heap.size≤V.wb∧V.w0.heap.size≤V.bb∧V.w0.heap.size≤V.tb
 top:V.pb<X.heap.size∧V.wb<X.heap.size∧V.bb<X.heap.size∧V.tb<X.heap.size
 ne:V.rb≠V.qb∧V.pb≠V.rb∧V.pb≠V.qb∧V.wb≠V.rb∧V.wb≠V.qb∧V.bb≠V.rb∧V.bb≠V.qb∧V.tb≠V.rb∧V.tb≠V.qb
def LpOk (V:WEnv) (lp:Option Nat):Prop:=∀l,lp=some l→V.w0.heap.size≤l∧l≠V.pb∧l≠V.rb∧l≠V.qb∧l≠V.wb∧l≠V.bb∧l≠V.tb
structure WVar (V:WEnv) (S:List St) (X:World) (lp:Option Nat) (lf:Option Bool) (rp:Rp):Prop where
 rep:Row oV X V.rb 182 [⟨.slice (some ⟨V.qb,0,none⟩) S.length S.length,rfl⟩,oi rp.pos,oi rp.err]
 reach:Row Value.bool X V.qb 4 rp.reach
 len:rp.reach.length=S.length
 left:(lp=none∧lf=none)∨∃l b,lp=some l∧lf=some b∧Row Value.bool X l 4 [b]
theorem WFix.upd {V:WEnv} {S:List St} {B:List (List Int)} {X Y:World} {lp:Option Nat} (h:WFix V S B X) (hu:Upd (V.E lp) X Y) (hl:LpOk V lp):WFix V S B Y:=by
 have hn:∀k,k=V.pb∨k=V.wb∨k=V.bb∨k=V.tb→¬V.E lp k:=by
  intro k hk he
  have n:=h.ne
  rcases he with he | he | he
  ·omega
  ·omega
  ·have:=hl k he;omega
 have hE:∀k,k<V.w0.heap.size→¬V.E lp k:=by
  intro k hk he
  have:=h.lt
  rcases he with he | he | he
  ·omega
  ·omega
  ·have:=hl k he;omega
 have ht:=h.top
 exact ⟨h.below.trans (hu.toBelow h.below.size hE),h.pg,(hu.block _ ht.1 (hn _ (.inl rfl))).trans h.box,(hu.cell ht.2.1 (hn _ (.inr (.inl rfl)))).trans h.cw,(hu.cell ht.2.2.1 (hn _ (.inr (.inr (.inl rfl))))).trans h.cb,
  (hu.cell ht.2.2.2 (hn _ (.inr (.inr (.inr rfl))))).trans h.ct,h.lt,⟨Nat.lt_of_lt_of_le ht.1 hu.size,Nat.lt_of_lt_of_le ht.2.1 hu.size,Nat.lt_of_lt_of_le ht.2.2.1 hu.size,Nat.lt_of_lt_of_le ht.2.2.2 hu.size⟩,h.ne⟩
theorem WFix.below' {V:WEnv} {S:List St} {B:List (List Int)} {X Y:World} (h:WFix V S B X) (hb:Below X.heap.size X Y):WFix V S B Y:=h.upd (lp:=none) (Upd.of_below _ hb (Nat.le_refl _)) (fun l e=>by cases e)
theorem WVar.below {V:WEnv} {S:List St} {X Y:World} {lp:Option Nat} {lf:Option Bool} {rp:Rp} (h:WVar V S X lp lf rp) (hb:Below X.heap.size X Y):WVar V S Y lp lf rp:=by
 refine ⟨h.rep.below hb h.rep.lt,h.reach.below hb h.reach.lt,h.len,?_⟩
 rcases h.left with h1 | ⟨l,b,h1,h2,h3⟩
 ·exact .inl h1
 ·exact .inr ⟨l,b,h1,h2,h3.below hb h3.lt⟩
end Go.Proofs.YtncnfncglacheaaGreatDoor
namespace Go.Proofs.YtncnfncglacheaaGreatDoor
open Go.RowKit Mem
set_option maxRecDepth 100000
end Go.Proofs.YtncnfncglacheaaGreatDoor
namespace Go.Proofs.YtncnfncglacheaaGreatDoor
open Go.RowKit Mem
set_option maxRecDepth 100000
theorem aggInfo:AggT Tryz.prog 115 3:=⟨fun _=>by kernel_rfl,fun _=>by kernel_rfl⟩
end Go.Proofs.YtncnfncglacheaaGreatDoor
namespace Go.Proofs.YtncnfncglacheaaGreatDoor
open Go.RowKit Mem
set_option maxRecDepth 100000
end Go.Proofs.YtncnfncglacheaaGreatDoor
