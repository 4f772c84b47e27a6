/- A struct of ints and byte arrays as one list of cells. -/
import Derived.Test.YteglnpanimgelaaGreatDoorAppT
import Derived.Test.YteglnpanimgelaaGreatDoorAgg
namespace Go.Proofs.YteglnpanimgelaaGreatDoor.Mem
open Go Go.RowKit

/-- a cell that is an int or a byte -/
def cV : Int ⊕ UInt8 → Value
  | .inl n => .int .i64 n
  | .inr x => u8V x
theorem cV_one (x : Int ⊕ UInt8) : (cV x).oneCell' = true := by cases x <;> rfl
/-- a receipt's cells -/
def recL (n v s : Int) (m r c : List UInt8) : List (Int ⊕ UInt8) := [.inl n, .inl v, .inl s] ++ m.map .inr ++ r.map .inr ++ c.map .inr
theorem recL_length (n v s : Int) (m r c : List UInt8) : (recL n v s m r c).length = 3 + m.length + r.length + c.length := by simp [recL]; omega
variable {w w' : World} {b : Nat} {t : TypeId}
theorem At.mid {pre post : List (Int ⊕ UInt8)} {x : List UInt8} {o : Nat} (h : At cV w b o (pre ++ x.map .inr ++ post)) (k : Nat) (hk : o + pre.length = k) : At u8V w b k x := by
  intro i hi
  subst hk
  have := h (pre.length + i) (by simp; omega)
  rw [← Nat.add_assoc] at this
  rw [this, List.append_assoc, List.getElem?_append_right (by omega), Nat.add_sub_cancel_left, List.getElem?_append_left (by simpa using hi), List.getElem?_map, List.getElem?_eq_getElem hi]
  rfl
variable {P : Program} {ops : Array Oper} {rest : List Oper} {o : Oper} {a : Act} {Q : Exit → Act → World → Prop}
theorem list_mid {β : Type} (A M Z N : List β) (k : Nat) (hk : k = A.length) (h : N.length = M.length) : (A ++ M ++ Z).take k ++ N ++ (A ++ M ++ Z).drop (k + N.length) = A ++ N ++ Z := by
  subst hk
  rw [List.drop_left' (by simp [h]), List.append_assoc A M Z, List.take_left]
/-- STORE of a byte array into the middle of a struct -/
theorem store_mid {ty : TypeId} {pre post : List (Int ⊕ UInt8)} {x y : List UInt8} (T : AggT P ty y.length) (X Y : Operand) (hgd : o.guard = none) (ho : o.op = .store ty X Y) (b k : Nat) (hx : a.eval X = .pointer (some ⟨b, k, none⟩))
    {C : Array Value} (hC : C = (y.map u8V).toArray) (hy : a.eval Y = .agg C) (h : Row cV w b t (pre ++ x.map Sum.inr ++ post)) (hk0 : pre.length = k) (hl : y.length = x.length)
    (hk : ∀ w', Row cV w' b t (pre ++ y.map Sum.inr ++ post) → w.grownBy w' (some b) → w'.heap.size = w.heap.size → wpList P ops Q rest (a.put o.dst undef) w') : wpList P ops Q (o :: rest) a w := by
  subst hC hk0
  have hs := run_storeCells_at P b pre.length t (y.map u8V) 0 ((pre ++ x.map Sum.inr ++ post).map cV).toArray w (by exact h) (by simp; omega) (fun v hv => by obtain ⟨y, _, rfl⟩ := List.mem_map.1 hv; exact u8V_one y)
  refine wpList_plain hgd fun K hK => ?_
  unfold Oper.wp execOp
  have hr : (storeVar ty ⟨b, pre.length, none⟩ (.agg (y.map u8V).toArray)).run P w = .ok () (w.setRow b (((pre ++ y.map Sum.inr ++ post).map cV).toArray)) := by
    simp only [storeVar, Value.cells, Sem.run_bind, T.size, Result.andThen_ok]
    have e : (((pre ++ x.map Sum.inr ++ post).map cV).toArray.toList.take (pre.length + 0) ++ y.map u8V ++ ((pre ++ x.map Sum.inr ++ post).map cV).toArray.toList.drop (pre.length + 0 + (y.map u8V).length)) = (pre ++ y.map Sum.inr ++ post).map cV := by
      simp only [List.map_append, List.map_map, Nat.add_zero]
      exact list_mid (pre.map cV) (x.map (cV ∘ Sum.inr)) (post.map cV) (y.map u8V) _ (by simp) (by simp [hl])
    rw [e] at hs
    simpa using hs
  simp only [ho, hx, hy, Instr.storeAt, Instr.sureAddr, Sem.run_bind, Sem.run_pure, Result.andThen_ok, hr]
  refine hK _ _ (hk _ ?_ (setRow_grown w b _) (by simp))
  unfold Row
  rw [setRow_heap w b _ _ t (0, 0) h]
theorem heap_new' (w : World) (o : Obj) (k : Nat) (h : k = w.heap.size) : (w.alloc o).heap[k]? = some o := by subst h; exact World.alloc_heap_new w _
end Go.Proofs.YteglnpanimgelaaGreatDoor.Mem
