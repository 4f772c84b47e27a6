/- Regions that draw their order: takes with the slot given, calls and allocations with the state laid out. -/
import Derived.Test.YtllomcmhkocdfaaGreatDoorMHeldTail
import Derived.Test.YtllomcmhkocdfaaGreatDoorMCells
namespace Go.Proofs.YtllomcmhkocdfaaGreatDoor
open Go Go.RowKit Mem

theorem put_none (a : Act) (v : Value) : Act.put a none v = a := rfl
theorem yieldsIf_skip {P : Program} {ops : Array Oper} {o : Oper} {a : Act} {S : World → Prop} (hw : Region.wanted o (yielded ops a.tmps) = false) : YieldsIf P ops S o undef a := .inr ⟨hw, rfl⟩
/-- a take with the slot given, the state laid out -/
theorem takeD {P : Program} {ops : Array Oper} {Q : Exit → Act → World → Prop} {md : Region.Mode} {S : World → Prop} {i d : Nat} {oi : Oper} {v : Value} {fuel : Nat} {listed : Array Bool} {a : Act} {w : World} (hi : ops[i]? = some oi) (hd : oi.dst = some d)
    (hs : Region.noSelect ops = true) (hf : Region.free md ops listed i = true) (hr : (Region.ready md ops listed).contains i = true)
    (hQ : ∀ c a w, Q (.panic c) (a.put oi.dst v) w → Q (.panic c) a w) (hy : YieldsIf P ops S oi v a) (hS : S w)
    (h : wpAnyH P md ops Q S fuel (listed.setIfInBounds i true) { a with tmps := a.tmps.setIfInBounds d v } w) : wpAnyH P md ops Q S (fuel + 1) listed a w := by
  refine wpAnyH_take hi hs hf hr hQ hy hS ?_
  rw [hd]
  exact h
theorem callD {P : Program} {ops : Array Oper} {o : Oper} {a : Act} {w : World} {K : Act → World → Prop} {Q : Exit → Act → World → Prop} {X : Prop} {g : FuncId} {args : Array Value} {d : Nat} (hd : o.dst = some d) (hw : Region.wanted o (yielded ops a.tmps) = true) (he : (execOp a.eval o).run P w = .ok (.enter g args) w)
    (h : Calls P g args w fun e w' => ∃ v, e = .returned v ∧ K { a with tmps := a.tmps.setIfInBounds d v } w') : if Region.wanted o (yielded ops a.tmps) = true then Oper.wp P o a w K Q else X :=
  held_call hw he (h.mono fun e w' ⟨v, e1, e2⟩ => ⟨v, e1, by rw [hd]; exact e2⟩)
theorem allocD {P : Program} {ops : Array Oper} {o : Oper} {a : Act} {w : World} {K : Act → World → Prop} {Q : Exit → Act → World → Prop} {X : Prop} {ob : Obj} {d : Nat} (hd : o.dst = some d) (hw : Region.wanted o (yielded ops a.tmps) = true)
    (he : (execOp a.eval o).run P w = .ok (.value (.pointer (some ⟨w.heap.size, 0, none⟩))) (w.alloc ob))
    (h : K { a with tmps := a.tmps.setIfInBounds d (.pointer (some ⟨w.heap.size, 0, none⟩)) } (w.alloc ob)) : if Region.wanted o (yielded ops a.tmps) = true then Oper.wp P o a w K Q else X := by
  rw [if_pos hw]
  unfold Oper.wp
  rw [he]
  show K (a.put o.dst _) _
  rw [hd]
  exact h
/-- an operation that gives a value in a world of its own -/
theorem valueD {P : Program} {ops : Array Oper} {o : Oper} {a : Act} {w w' : World} {K : Act → World → Prop} {Q : Exit → Act → World → Prop} {X : Prop} {v : Value} {d : Nat} (hd : o.dst = some d) (hw : Region.wanted o (yielded ops a.tmps) = true)
    (he : (execOp a.eval o).run P w = .ok (.value v) w') (h : K { a with tmps := a.tmps.setIfInBounds d v } w') : if Region.wanted o (yielded ops a.tmps) = true then Oper.wp P o a w K Q else X := by
  rw [if_pos hw]
  unfold Oper.wp
  rw [he]
  show K (a.put o.dst _) _
  rw [hd]
  exact h
theorem Mem.headsT_takeD {P : Program} {l : List Oper} {Q : Exit → Act → World → Prop} {S : World → Prop} {n i d : Nat} {oi : Oper} {v : Value} {f : Nat} {s : Array Bool} {a : Act} {w : World} (hB : tailB l.toArray n = true) (hi : l.toArray[i]? = some oi) (hd : oi.dst = some d) (hin : i < n)
    (hf : Region.free .any l.toArray s i = true) (hr : (Region.ready .any l.toArray s).contains i = true) (hQ : ∀ c a w, Q (.panic c) (a.put oi.dst v) w → Q (.panic c) a w)
    (hy : YieldsIf P l.toArray S oi v a) (hS : S w) (h : HeadsT P l Q S n f (s.setIfInBounds i true) { a with tmps := a.tmps.setIfInBounds d v } w) : HeadsT P l Q S n (f + 1) s a w := by
  refine headsT_take hB hi hin hf hr hQ hy hS ?_
  rw [hd]
  exact h
end Go.Proofs.YtllomcmhkocdfaaGreatDoor

/- A store in a region that draws its order. -/
namespace Go.Proofs.YtllomcmhkocdfaaGreatDoor
open Go Go.RowKit Mem

theorem storeH {α : Type} {f : α → Value} {P : Program} {ops : Array Oper} {o : Oper} {a : Act} {w : World} {K : Act → World → Prop} {Q : Exit → Act → World → Prop} {Z : Prop} {ty t : TypeId} {l l' : List α} (T : AggT P ty l'.length) (x y : Operand) (hw : Region.wanted o (yielded ops a.tmps) = true) (ho : o.op = .store ty x y) (hd : o.dst = none) (b : Nat) (hx : a.eval x = .pointer (some ⟨b, 0, none⟩))
    {C : Array Value} (hC : C = (l'.map f).toArray) (hy : a.eval y = .agg C) (h : Row f w b t l) (hl : l'.length = l.length) (h1 : ∀ x, (f x).oneCell' = true)
    (hk : ∀ w', Row f w' b t l' → w.grownBy w' (some b) → K a w') : if Region.wanted o (yielded ops a.tmps) = true then Oper.wp P o a w K Q else Z := by
  subst hC
  obtain ⟨w', hr, h2, h3, h4⟩ := run_store_agg T h hl h1
  rw [if_pos hw]
  unfold Oper.wp execOp
  simp only [ho, hx, hy, Instr.storeAt, Instr.sureAddr, Sem.run_bind, Sem.run_pure, Result.andThen_ok, hr]
  show K (a.put o.dst undef) w'
  rw [hd]
  exact hk w' h2 h3
end Go.Proofs.YtllomcmhkocdfaaGreatDoor
