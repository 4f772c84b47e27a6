/- Part of a proof. -/
import Derived.OrdersHeld
import Derived.Test.YtngjelolnfgnbaaGreatDoorMAgg
set_option linter.all false
set_option maxRecDepth 100000
set_option maxHeartbeats 64000000
namespace Go.Proofs.YtngjelolnfgnbaaGreatDoor
namespace Mem
open Go Go.RowKit
variable {α:Type} {f:α→Value} {l:List α}
variable {P:Program} {ops:Array Oper} {o:Oper} {a:Act} {S:World→Prop}
theorem aH {ty:TypeId} (T:gB P ty l.length) (x:Operand) (ho:o.op= .load ty x) (b off:Nat) (hx:a.eval x= .pointer (some ⟨b,off,none⟩)) (hS:∀w,S w→At f w b off l)
  {C:Array Value} (hC:C=(l.map f).toArray) (hw:Region.wanted o (yielded ops a.tmps)=true):YieldsIf P ops S o (.agg C) a:=by
 subst hC;refine .inl ⟨hw,fun w h=> ?_⟩;unfold execOp;simp only [ho,hx,Instr.loadAt,Instr.sureAddr,bK,dG,bR,eG T (hS w h)]
theorem gV {v:Value} (hw:Region.wanted o (yielded ops a.tmps)=true) (h:∀w,(execOp a.eval o).run P w= .ok (.value v) w):YieldsIf P ops S o v a:= .inl ⟨hw,fun w _=>h w⟩
theorem yV {w:World} {K:Act→World→Prop} {Q:Exit→Act→World→Prop} {X:Prop} {g:FuncId} {args:Array Value} (hw:Region.wanted o (yielded ops a.tmps)=true) (he:(execOp a.eval o).run P w= .ok (.enter g args) w)
  (h:Calls P g args w fun e w'=>∃v,e= .returned v∧K (a.put o.dst v) w'):if Region.wanted o (yielded ops a.tmps)=true then Oper.wp P o a w K Q else X:=by
 rw [aF hw];unfold Oper.wp;rw [he];show Calls P g args w _;refine h.mono ?_;rintro e w' ⟨v,rfl,hk⟩;exact hk
end Mem
end Go.Proofs.YtngjelolnfgnbaaGreatDoor
