/- Laws: a whole array or struct is loaded, stored, boxed as one list of cells; a closed operation is carried out by the kernel. -/
import Derived.Test.YtllomcmhkocdfaaGreatDoorMOwn
import Derived.Laws.CopyRow
namespace Go.Proofs.YtllomcmhkocdfaaGreatDoor.Mem
open Go Go.RowKit

variable {α : Type} {f : α → Value} {w w' : World} {base : Nat} {e : TypeId} {v : Value} {l : List α}
variable {P : Program} {ops : Array Oper} {rest : List Oper} {o : Oper} {a : Act} {Q : Exit → Act → World → Prop}

/-- what the model's table says of an array or struct type of n cells -/
structure AggT (P : Program) (ty : TypeId) (n : Nat) : Prop where
  agg : ∀ w, (isAgg ty).run P w = .ok true w
  size : ∀ w, (Go.sizeOf ty).run P w = .ok n w

theorem run_load_agg {ty : TypeId} (T : AggT P ty l.length) {b off : Nat} (h : At f w b off l) : (loadVar ty ⟨b, off, none⟩).run P w = .ok (.agg (l.map f).toArray) w := by
  have hl : (loadCells ⟨b, off, none⟩ (l.map f).length).run P w = .ok (l.map f).toArray w :=
    run_loadCells_list (P := P) w ⟨b, off, none⟩ (l.map f) (fun j v hv => by
      have hadd : (⟨b, off, none⟩ : Addr).add j = ⟨b, off + j, none⟩ := by unfold Addr.add; split <;> simp_all
      rw [List.getElem?_map] at hv
      by_cases hj : j < l.length
      · rw [hadd, h j hj, hv]
      · rw [List.getElem?_eq_none (by omega)] at hv; cases hv)
  rw [List.length_map] at hl
  simp [loadVar, Sem.run_bind, T.agg, T.size, hl]

/-- LOAD of a whole array or struct -/
theorem load_agg {ty : TypeId} (T : AggT P ty l.length) (x : Operand) (hgd : o.guard = none) (ho : o.op = .load ty x) (b off : Nat) (hx : a.eval x = .pointer (some ⟨b, off, none⟩)) (h : At f w b off l)
    {C : Array Value} (hC : C = (l.map f).toArray) (hk : wpList P ops Q rest (a.put o.dst (.agg C)) w) : wpList P ops Q (o :: rest) a w := by
  subst hC
  refine wpList_plain hgd fun K hK => ?_
  unfold Oper.wp execOp
  simp only [ho, hx, Instr.loadAt, Instr.sureAddr, Sem.run_bind, Sem.run_pure, Result.andThen_ok, run_load_agg T h]
  exact hK _ _ hk

theorem setRow_grown (w : World) (g : Nat) (cs : Array Value) : w.grownBy (w.setRow g cs) (some g) :=
  ⟨rfl, rfl, rfl, by simp, fun k _ hne => setRow_other w g k cs (fun e => hne (by rw [e]))⟩

theorem run_store_agg {ty : TypeId} {t : TypeId} {l' : List α} (T : AggT P ty l'.length) {b : Nat} (h : Row f w b t l) (hl : l'.length = l.length) (h1 : ∀ x, (f x).oneCell' = true) :
    ∃ w', (storeVar ty ⟨b, 0, none⟩ (.agg (l'.map f).toArray)).run P w = .ok () w' ∧ Row f w' b t l' ∧ w.grownBy w' (some b) ∧ w'.heap.size = w.heap.size := by
  have hs := run_storeCells_from (P := P) b t (l'.map f) 0 (l.map f).toArray w h (by simp [hl]) (fun v hv => by obtain ⟨y, _, rfl⟩ := List.mem_map.1 hv; exact h1 y)
  simp only [List.take_zero, List.nil_append] at hs
  refine ⟨w.setRow b (l'.map f).toArray, ?_, ?_, setRow_grown w b _, ?_⟩
  · simp [storeVar, Value.cells, Sem.run_bind, T.size]
    exact hs
  · unfold Row
    rw [setRow_heap w b _ _ t (0, 0) h]
  · simp

/-- STORE of a whole array or struct into a block of its size -/
theorem store_agg {ty : TypeId} {t : TypeId} {l' : List α} (T : AggT P ty l'.length) (x y : Operand) (hgd : o.guard = none) (ho : o.op = .store ty x y) (b : Nat) (hx : a.eval x = .pointer (some ⟨b, 0, none⟩))
    {C : Array Value} (hC : C = (l'.map f).toArray) (hy : a.eval y = .agg C) (h : Row f w b t l) (hl : l'.length = l.length) (h1 : ∀ x, (f x).oneCell' = true)
    (hk : ∀ w', Row f w' b t l' → w.grownBy w' (some b) → w'.heap.size = w.heap.size → wpList P ops Q rest (a.put o.dst undef) w') : wpList P ops Q (o :: rest) a w := by
  subst hC
  obtain ⟨w', hr, h2, h3, h4⟩ := run_store_agg T h hl h1
  refine wpList_plain hgd fun K hK => ?_
  unfold Oper.wp execOp
  simp only [ho, hx, hy, Instr.storeAt, Instr.sureAddr, Sem.run_bind, Sem.run_pure, Result.andThen_ok, hr]
  exact hK _ _ (hk w' h2 h3 h4)

/-- the result of a function whose result lies in a block -/
theorem results_agg {fn : Func} {p : Tmp} {ty : TypeId} (h : fn.results = #[.cell p ty]) (tmps : Array Value) (T : AggT P ty l.length) (b off : Nat) (hp : tmps.getD p undef = .pointer (some ⟨b, off, none⟩)) (hat : At f w b off l) :
    (results fn tmps).run P w = .ok (.agg (l.map f).toArray) w := by
  have hp' : tmps[p]?.getD undef = .pointer (some ⟨b, off, none⟩) := by simpa using hp
  simp [results, h, hp', asAddr, run_load_agg T hat]

theorem u8V_one (x : UInt8) : (u8V x).oneCell' = true := rfl
end Go.Proofs.YtllomcmhkocdfaaGreatDoor.Mem
