/- One-cell values as the elements of a row of cells; the cells of a dialect statement that appends a field. -/
import Derived.Test.YtgflelodpcgmbaaGreatDoorMOwn
import Derived.LoopN
import Derived.Lib.ConvBytes
import Derived.Lib.Hide
import Derived.Test.YtgflelodpcgmbaaGreatDoorProg
import Derived.Test.YtgflelodpcgmbaaGreatDoorMHeld
namespace Go.Proofs.YtgflelodpcgmbaaGreatDoor
open Go Go.RowKit Mem
set_option maxRecDepth 100000

theorem heap_new' (w : World) (o : Obj) (k : Nat) (h : k = w.heap.size) : (w.alloc o).heap[k]? = some o := by subst h; exact World.alloc_heap_new w _
/-- the walk stops here -/
def Pause (p : Prop) : Prop := p
theorem Pause.out {p : Prop} (h : p) : Pause p := h
theorem Pause.back {p : Prop} (h : Pause p) : p := h
/-- a value of one cell -/
abbrev OC := {v : Value // v.oneCell' = true}
def oV (x : OC) : Value := x.1
theorem oV_one (x : OC) : (oV x).oneCell' = true := x.2
def oi (n : Int) : OC := ⟨.int .i64 n, rfl⟩
def ob (b : Bool) : OC := ⟨.bool b, rfl⟩
def os (s : ByteArray) : OC := ⟨.string s, rfl⟩
def ow (n : Int) : OC := ⟨.int .u64 n, rfl⟩
def on : OC := ⟨.slice none 0 0, rfl⟩

/-- the cells of a statement that has only a kind, a string x, a name, and Then and Else -/
def stC (kind x : Int) (nm : ByteArray) (t e : Int) : List OC :=
  [oi kind, oi x, oi 0, oi 0, oi 0, oi 0, oi 0, on, ob false, oi 0, on, on, ow 0, ow 0, ow 0, ow 0, oi 0, oi 0, oi 0, oi 0, ob false, on, on, oi 0, ob false, oi 0, oi 0, oi 0, oi 0, on, os nm, oi t, oi e]
theorem stC_length (kind x : Int) (nm : ByteArray) (t e : Int) : (stC kind x nm t e).length = 33 := rfl
theorem aggStmt : AggT Tryz.prog 125 33 := ⟨fun _ => by kernel_rfl, fun _ => by kernel_rfl⟩

theorem aggStmtL (k x : Int) (nm : ByteArray) (t e : Int) : AggT Tryz.prog 125 (stC k x nm t e).length := aggStmt

theorem below_set {B : Nat} {w w' : World} (h : Below B w w') {b : Nat} (i : Nat) (hb : B ≤ b) (v : Value) : Below B w (w'.setCell ⟨b, i, none⟩ v) := h.setCell hb v
/-- the zero statement's cells -/
abbrev zStmtC : Array Value := #[.int .i64 0, .int .i64 0, .int .i64 0, .int .i64 0, .int .i64 0, .int .i64 0, .int .i64 0, .slice none 0 0, .bool false, .int .i64 0, .slice none 0 0, .slice none 0 0, .int .u64 0, .int .u64 0, .int .u64 0, .int .u64 0, .int .i64 0, .int .i64 0, .int .i64 0, .int .i64 0, .bool false, .slice none 0 0, .slice none 0 0, .int .i64 0, .bool false, .int .i64 0, .int .i64 0, .int .i64 0, .int .i64 0, .slice none 0 0, .string ⟨#[]⟩, .int .i64 0, .int .i64 0]

namespace Mem
variable {α : Type} {f : α → Value} {w : World} {l : List α} {P : Program} {ops : Array Oper} {rest : List Oper} {o : Oper} {a : Act} {Q : Exit → Act → World → Prop}
theorem load_agg_w {ty : TypeId} (T : AggT P ty l.length) (x : Operand) (hw : Region.wanted o (yielded ops a.tmps) = true) (ho : o.op = .load ty x) (b off : Nat) (hx : a.eval x = .pointer (some ⟨b, off, none⟩)) (h : At f w b off l)
    {C : Array Value} (hC : C = (l.map f).toArray) (hk : wpList P ops Q rest (a.put o.dst (.agg C)) w) : wpList P ops Q (o :: rest) a w := by
  subst hC
  refine wpList_step fun K hK => ?_
  rw [if_pos hw]
  unfold Oper.wp execOp
  simp only [ho, hx, Instr.loadAt, Instr.sureAddr, Sem.run_bind, Sem.run_pure, Result.andThen_ok, run_load_agg T h]
  exact hK _ _ hk
theorem convert_sb {w : World} {src dst e : TypeId} (x : Operand) (hgd : o.guard = none) (ho : o.op = .convert src dst x) (hs : P.underlying src = some .string) (hd : P.underlying dst = some (.slice e)) (he : P.underlying e = some (.int .u8))
    (s : ByteArray) (hx : a.eval x = .string s) (h : wpList P ops Q rest (a.put o.dst (.slice (some ⟨w.heap.size, 0, none⟩) s.size (grownCap w s.size 0 e))) (Lib.bytesWorld w e s)) :
    wpList P ops Q (o :: rest) a w := by
  refine wpList_plain hgd fun K hK => ?_
  have hrun := Lib.run_convert_string_bytes (P := P) w src dst e s hs hd he
  unfold Oper.wp
  simp [execOp, ho, hx, hrun, Result.andThen]
  exact hK _ _ h
theorem below_bytes (w : World) (e : TypeId) (s : ByteArray) : Below w.heap.size w (Lib.bytesWorld w e s) :=
  ⟨rfl, rfl, rfl, by rw [Lib.bytesWorld_size]; omega, fun k hk => Lib.bytesWorld_at_old w e s k hk⟩
/-- an operation that is wanted and whose value is known -/
theorem closed_w {u : Value} (op : Op) (hw : Region.wanted o (yielded ops a.tmps) = true) (ho : o.op = op) (hr : (execOp a.eval o).run P w = .ok (.value u) w) (hk : wpList P ops Q rest (a.put o.dst u) w) : wpList P ops Q (o :: rest) a w := by
  have _ := ho
  refine wpList_step fun K hK => ?_
  rw [if_pos hw]
  unfold Oper.wp
  rw [hr]
  exact hK _ _ hk
end Mem

/-- v is a program whose only statement appends the field nm from string 0 -/
def FP (w : World) (v : Value) (nm : ByteArray) : Prop :=
  ∃ sb so sc bb bo bc ib io ic, v = .agg #[.slice (some ⟨sb, so, none⟩) 1 sc, .slice (some ⟨bb, bo, none⟩) 1 bc] ∧ (1 ≤ sc ∧ 1 ≤ bc ∧ 1 ≤ ic) ∧ (At oV w sb so (stC 13 0 nm (-1) (-1)) ∧ sb < w.heap.size) ∧
    (w.cell? ⟨bb, bo, none⟩ = some (.slice (some ⟨ib, io, none⟩) 1 ic) ∧ bb < w.heap.size) ∧ w.cell? ⟨ib, io, none⟩ = some (.int .i64 0) ∧ ib < w.heap.size
theorem FP.below {w w' : World} {v : Value} {nm : ByteArray} (h : FP w v nm) (hb : Below w.heap.size w w') : FP w' v nm := by
  obtain ⟨sb, so, sc, bb, bo, bc, ib, io, ic, rfl, hcap, ⟨h1, l1⟩, ⟨h2, l2⟩, h3, l3⟩ := h
  exact ⟨sb, so, sc, bb, bo, bc, ib, io, ic, rfl, hcap, ⟨h1.below hb l1, Nat.lt_of_lt_of_le l1 hb.size⟩, ⟨(hb.cell (p := ⟨bb, bo, none⟩) l2).trans h2, Nat.lt_of_lt_of_le l2 hb.size⟩, (hb.cell (p := ⟨ib, io, none⟩) l3).trans h3, Nat.lt_of_lt_of_le l3 hb.size⟩
end Go.Proofs.YtgflelodpcgmbaaGreatDoor
/- Regions that draw their order: takes with the slot given, calls and allocations with the state laid out. -/
namespace Go.Proofs.YtgflelodpcgmbaaGreatDoor
open Go Go.RowKit Mem

theorem put_none (a : Act) (v : Value) : Act.put a none v = a := rfl
theorem yieldsIf_skip {P : Program} {ops : Array Oper} {o : Oper} {a : Act} {S : World → Prop} (hw : Region.wanted o (yielded ops a.tmps) = false) : YieldsIf P ops S o undef a := .inr ⟨hw, rfl⟩
/-- a take with the slot given, the state laid out -/
theorem takeD {P : Program} {ops : Array Oper} {Q : Exit → Act → World → Prop} {md : Region.Mode} {S : World → Prop} {i d : Nat} {oi : Oper} {v : Value} {fuel : Nat} {listed : Array Bool} {a : Act} {w : World} (hi : ops[i]? = some oi) (hd : oi.dst = some d)
    (hs : Region.noSelect ops = true) (hf : Region.free md ops listed i = true) (hr : (Region.ready md ops listed).contains i = true)
    (hQ : ∀ c a w, Q (.panic c) (a.put oi.dst v) w → Q (.panic c) a w) (hy : YieldsIf P ops S oi v a) (hS : S w)
    (h : wpAnyH P md ops Q S fuel (listed.setIfInBounds i true) { a with tmps := a.tmps.setIfInBounds d v } w) : wpAnyH P md ops Q S (fuel + 1) listed a w := by
  refine wpAnyH_take hi hs hf hr hQ hy hS ?_
  rw [hd]
  exact h
theorem callD {P : Program} {ops : Array Oper} {o : Oper} {a : Act} {w : World} {K : Act → World → Prop} {Q : Exit → Act → World → Prop} {X : Prop} {g : FuncId} {args : Array Value} {d : Nat} (hd : o.dst = some d) (hw : Region.wanted o (yielded ops a.tmps) = true) (he : (execOp a.eval o).run P w = .ok (.enter g args) w)
    (h : Calls P g args w fun e w' => ∃ v, e = .returned v ∧ K { a with tmps := a.tmps.setIfInBounds d v } w') : if Region.wanted o (yielded ops a.tmps) = true then Oper.wp P o a w K Q else X :=
  held_call hw he (h.mono fun e w' ⟨v, e1, e2⟩ => ⟨v, e1, by rw [hd]; exact e2⟩)
theorem allocD {P : Program} {ops : Array Oper} {o : Oper} {a : Act} {w : World} {K : Act → World → Prop} {Q : Exit → Act → World → Prop} {X : Prop} {ob : Obj} {d : Nat} (hd : o.dst = some d) (hw : Region.wanted o (yielded ops a.tmps) = true)
    (he : (execOp a.eval o).run P w = .ok (.value (.pointer (some ⟨w.heap.size, 0, none⟩))) (w.alloc ob))
    (h : K { a with tmps := a.tmps.setIfInBounds d (.pointer (some ⟨w.heap.size, 0, none⟩)) } (w.alloc ob)) : if Region.wanted o (yielded ops a.tmps) = true then Oper.wp P o a w K Q else X := by
  rw [if_pos hw]
  unfold Oper.wp
  rw [he]
  show K (a.put o.dst _) _
  rw [hd]
  exact h
/-- an operation that gives a value in a world of its own -/
theorem valueD {P : Program} {ops : Array Oper} {o : Oper} {a : Act} {w w' : World} {K : Act → World → Prop} {Q : Exit → Act → World → Prop} {X : Prop} {v : Value} {d : Nat} (hd : o.dst = some d) (hw : Region.wanted o (yielded ops a.tmps) = true)
    (he : (execOp a.eval o).run P w = .ok (.value v) w') (h : K { a with tmps := a.tmps.setIfInBounds d v } w') : if Region.wanted o (yielded ops a.tmps) = true then Oper.wp P o a w K Q else X := by
  rw [if_pos hw]
  unfold Oper.wp
  rw [he]
  show K (a.put o.dst _) _
  rw [hd]
  exact h
theorem Mem.headsT_takeD {P : Program} {l : List Oper} {Q : Exit → Act → World → Prop} {S : World → Prop} {n i d : Nat} {oi : Oper} {v : Value} {f : Nat} {s : Array Bool} {a : Act} {w : World} (hB : tailB l.toArray n = true) (hi : l.toArray[i]? = some oi) (hd : oi.dst = some d) (hin : i < n)
    (hf : Region.free .any l.toArray s i = true) (hr : (Region.ready .any l.toArray s).contains i = true) (hQ : ∀ c a w, Q (.panic c) (a.put oi.dst v) w → Q (.panic c) a w)
    (hy : YieldsIf P l.toArray S oi v a) (hS : S w) (h : HeadsT P l Q S n f (s.setIfInBounds i true) { a with tmps := a.tmps.setIfInBounds d v } w) : HeadsT P l Q S n (f + 1) s a w := by
  refine headsT_take hB hi hin hf hr hQ hy hS ?_
  rw [hd]
  exact h
end Go.Proofs.YtgflelodpcgmbaaGreatDoor
