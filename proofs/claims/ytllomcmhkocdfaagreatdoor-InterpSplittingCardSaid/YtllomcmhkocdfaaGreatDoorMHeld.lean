/- Laws for a region that draws its order, reads whole arrays or structs, and calls (over the kit's OrdersHeld). -/
import Derived.OrdersHeld
import Derived.Test.YtllomcmhkocdfaaGreatDoorMAgg
namespace Go.Proofs.YtllomcmhkocdfaaGreatDoor.Mem
open Go Go.RowKit

variable {α : Type} {f : α → Value} {l : List α}
variable {P : Program} {ops : Array Oper} {o : Oper} {a : Act} {S : World → Prop}

theorem yieldsIf_load {ty : TypeId} (T : AggT P ty l.length) (x : Operand) (ho : o.op = .load ty x) (b off : Nat) (hx : a.eval x = .pointer (some ⟨b, off, none⟩)) (hS : ∀ w, S w → At f w b off l)
    {C : Array Value} (hC : C = (l.map f).toArray) (hw : Region.wanted o (yielded ops a.tmps) = true) : YieldsIf P ops S o (.agg C) a := by
  subst hC
  refine .inl ⟨hw, fun w h => ?_⟩
  unfold execOp
  simp only [ho, hx, Instr.loadAt, Instr.sureAddr, Sem.run_bind, Sem.run_pure, Result.andThen_ok, run_load_agg T (hS w h)]

theorem yieldsIf_op {v : Value} (hw : Region.wanted o (yielded ops a.tmps) = true) (h : ∀ w, (execOp a.eval o).run P w = .ok (.value v) w) : YieldsIf P ops S o v a := .inl ⟨hw, fun w _ => h w⟩

theorem held_call {w : World} {K : Act → World → Prop} {Q : Exit → Act → World → Prop} {X : Prop} {g : FuncId} {args : Array Value} (hw : Region.wanted o (yielded ops a.tmps) = true) (he : (execOp a.eval o).run P w = .ok (.enter g args) w)
    (h : Calls P g args w fun e w' => ∃ v, e = .returned v ∧ K (a.put o.dst v) w') : if Region.wanted o (yielded ops a.tmps) = true then Oper.wp P o a w K Q else X := by
  rw [if_pos hw]
  unfold Oper.wp
  rw [he]
  show Calls P g args w _
  refine h.mono ?_
  rintro e w' ⟨v, rfl, hk⟩
  exact hk
end Go.Proofs.YtllomcmhkocdfaaGreatDoor.Mem
