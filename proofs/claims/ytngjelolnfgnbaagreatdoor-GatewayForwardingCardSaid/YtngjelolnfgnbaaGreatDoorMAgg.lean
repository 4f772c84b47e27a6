/- Part of a proof. -/
import Derived.Test.YtngjelolnfgnbaaGreatDoorMOwn
import Derived.Laws.CopyRow
set_option linter.all false
set_option maxRecDepth 100000
set_option maxHeartbeats 64000000
namespace Go.Proofs.YtngjelolnfgnbaaGreatDoor
namespace Mem
open Go Go.RowKit
variable {α:Type} {f:α→Value} {w w':World} {base:Nat} {e:TypeId} {v:Value} {l:List α}
variable {P:Program} {ops:Array Oper} {rest:List Oper} {o:Oper} {a:Act} {Q:Exit→Act→World→Prop}
structure gB (P:Program) (ty:TypeId) (n:Nat):Prop where
 agg:∀w,(isAgg ty).run P w= .ok true w
 size:∀w,(Go.sizeOf ty).run P w= .ok n w
theorem eG {ty:TypeId} (T:gB P ty l.length) {b off:Nat} (h:At f w b off l):(loadVar ty ⟨b,off,none⟩).run P w= .ok (.agg (l.map f).toArray) w:=by
 have hl:(loadCells ⟨b,off,none⟩ (l.map f).length).run P w= .ok (l.map f).toArray w:=
  run_loadCells_list (P:=P) w ⟨b,off,none⟩ (l.map f) (fun j v hv=>by
   have hadd:(⟨b,off,none⟩:Addr).add j=⟨b,off+j,none⟩:=by unfold Addr.add;split<;>simp_all
   rw [sW] at hv
   by_cases hj:j<l.length
   ·rw [hadd,h j hj,hv]
   ·rw [mR (by omega)] at hv;cases hv)
 rw [yS] at hl;simp [loadVar,bK,T.agg,T.size,hl]
theorem Ca {ty:TypeId} (T:gB P ty l.length) (x:Operand) (hgd:o.guard=none) (ho:o.op= .load ty x) (b off:Nat) (hx:a.eval x= .pointer (some ⟨b,off,none⟩)) (h:At f w b off l)
  {C:Array Value} (hC:C=(l.map f).toArray) (hk:wpList P ops Q rest (a.put o.dst (.agg C)) w):wpList P ops Q (o::rest) a w:=by
 subst hC;refine wpList_plain hgd fun K hK=> ?_;unfold Oper.wp execOp;simp only [ho,hx,Instr.loadAt,Instr.sureAddr,bK,dG,bR,eG T h];exact hK _ _ hk
theorem uS (w:World) (g:Nat) (cs:Array Value):w.grownBy (w.setRow g cs) (some g):=
 ⟨rfl,rfl,rfl,by simp,fun k _ hne=>setRow_other w g k cs (fun e=>hne (by rw [e]))⟩
theorem kS {ty:TypeId} {t:TypeId} {l':List α} (T:gB P ty l'.length) {b:Nat} (h:Row f w b t l) (hl:l'.length=l.length) (h1:∀x,(f x).oneCell'=true):
  ∃w',(storeVar ty ⟨b,0,none⟩ (.agg (l'.map f).toArray)).run P w= .ok () w'∧Row f w' b t l'∧w.grownBy w' (some b)∧w'.heap.size=w.heap.size:=by
 have hs:=run_storeCells_from (P:=P) b t (l'.map f) 0 (l.map f).toArray w h (by simp [hl]) (fun v hv=>by obtain ⟨y,_,rfl⟩:=zM.1 hv;exact h1 y);simp only [List.take_zero,List.nil_append] at hs;refine ⟨w.setRow b (l'.map f).toArray,?_,?_,uS w b _,?_⟩
 ·simp [storeVar,Value.cells,bK,T.size];exact hs
 ·unfold Row;rw [setRow_heap w b _ _ t (0,0) h]
 ·simp
theorem zb {ty:TypeId} {t:TypeId} {l':List α} (T:gB P ty l'.length) (x y:Operand) (hgd:o.guard=none) (ho:o.op= .store ty x y) (b:Nat) (hx:a.eval x= .pointer (some ⟨b,0,none⟩))
  {C:Array Value} (hC:C=(l'.map f).toArray) (hy:a.eval y= .agg C) (h:Row f w b t l) (hl:l'.length=l.length) (h1:∀x,(f x).oneCell'=true)
  (hk:∀w',Row f w' b t l'→w.grownBy w' (some b)→w'.heap.size=w.heap.size→wpList P ops Q rest (a.put o.dst undef) w'):wpList P ops Q (o::rest) a w:=by
 subst hC;obtain ⟨w',hr,h2,h3,h4⟩:=kS T h hl h1;refine wpList_plain hgd fun K hK=> ?_;unfold Oper.wp execOp;simp only [ho,hx,hy,Instr.storeAt,Instr.sureAddr,bK,dG,bR,hr];exact hK _ _ (hk w' h2 h3 h4)
theorem dQ {fn:Func} {p:Tmp} {ty:TypeId} (h:fn.results= #[.cell p ty]) (tmps:Array Value) (T:gB P ty l.length) (b off:Nat) (hp:tmps.getD p undef= .pointer (some ⟨b,off,none⟩)) (hat:At f w b off l):
  (results fn tmps).run P w= .ok (.agg (l.map f).toArray) w:=by
 have hp':tmps[p]?.getD undef= .pointer (some ⟨b,off,none⟩):=by simpa using hp
 simp [results,h,hp',asAddr,eG T hat]
theorem gD (x:UInt8):(bg x).oneCell'=true:=rfl
end Mem
end Go.Proofs.YtngjelolnfgnbaaGreatDoor
