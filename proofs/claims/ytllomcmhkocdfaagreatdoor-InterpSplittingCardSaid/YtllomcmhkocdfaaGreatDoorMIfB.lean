/- The interpreter's effects: split. -/
import Derived.Test.YtllomcmhkocdfaaGreatDoorMTrim
import Derived.Test.YtllomcmhkocdfaaGreatDoorMShelf
import Derived.WalkMore
namespace Go.Proofs.YtllomcmhkocdfaaGreatDoor
open Go Go.RowKit Mem
set_option maxRecDepth 100000

theorem storeH1 {P : Program} {ops : Array Oper} {o : Oper} {a : Act} {w : World} {K : Act → World → Prop} {Q : Exit → Act → World → Prop} {Z : Prop} {ty : TypeId} (x y : Operand) (hw : Region.wanted o (yielded ops a.tmps) = true) (ho : o.op = .store ty x y) (hd : o.dst = none) (b i : Nat) (v : Value)
    (hr : (Instr.storeAt ty (a.eval x) (a.eval y)).run P w = .ok () (w.setCell ⟨b, i, none⟩ v)) (hk : K a (w.setCell ⟨b, i, none⟩ v)) : if Region.wanted o (yielded ops a.tmps) = true then Oper.wp P o a w K Q else Z := by
  rw [if_pos hw]
  unfold Oper.wp execOp
  simp only [ho, Sem.run_bind, Sem.run_pure, Result.andThen_ok, hr]
  show K (a.put o.dst undef) _
  rw [hd]
  exact hk
def idxB (l : List UInt8) (y : UInt8) : Int := Lib.indexByte l y
theorem bytesOf_nums (l : List UInt8) : Lib.bytesOf (l.map fun x => (x.toNat : Int)) = l := by
  unfold Lib.bytesOf
  rw [List.map_map]
  conv => rhs; rw [← List.map_id l]
  apply List.map_congr_left
  intro x _
  simp
/-- bytes.Index of one byte -/
theorem rIndex1 (w : World) (p : Option Addr) (n k : Nat) (l : List UInt8) (y : UInt8) (q : Sl) (hu : Rd u8V w (.slice p n k) l) (hn : Nrm (.slice p n k)) (hq : Rd u8V w q.v [y]) :
    Calls Tryz.prog 52 #[.slice p n k, q.v] w fun e w' => e = .returned (.int .i64 (idxB l y)) ∧ w' = w := by
  have hq1 := hq
  obtain ⟨b2, o2, d, hqe, hc2⟩ : ∃ b2 o2 d, q.v = .slice (some ⟨b2, o2, none⟩) 1 d ∧ w.cell? ⟨b2, o2, none⟩ = some (.int .u8 (y.toNat : Int)) := by
    rcases hq with ⟨_, _, h⟩ | ⟨b2, o2, d, h, _, ha, _⟩
    · cases h
    · exact ⟨b2, o2, d, h, ha 0 (by simp)⟩
  rw [hqe]
  have hy : ((y.toNat : Int)).toNat.toUInt8 = y := by simp
  cases p with
  | none =>
    rcases hu with ⟨q2, he, rfl⟩ | ⟨_, _, _, he, _⟩
    · injection he with e1 e2 e3
      subst e2 e3
      exact (Tryz.bytes_Index_one_nil b2 o2 d (y.toNat : Int) w hc2).mono fun e w' h => ⟨h.1, h.2⟩
    · simp at he
  | some ad =>
    obtain ⟨b, o, rfl⟩ := hn ad n k rfl
    have hnl := hu.len
    have hc : ∀ i, i < n → w.cell? ⟨b, o + i, none⟩ = some (.int .u8 ((l.map fun x => (x.toNat : Int)).getD i 0)) := by
      intro i hi
      rcases hu with ⟨q2, he, rfl⟩ | ⟨b', o', cap, he, _, ha, _⟩
      · simp at hnl; omega
      · injection he with e1 e2 e3
        injection e1 with e1
        injection e1 with e1 e4
        subst e1 e4
        rw [ha i (by omega)]
        rw [List.getD_eq_getElem?_getD, List.getElem?_map, List.getElem?_eq_getElem (by omega)]
        rfl
    refine (Tryz.bytes_Index_one b o n k b2 o2 d (l.map fun x => (x.toNat : Int)) (y.toNat : Int) w (by simp [hnl]) hc hc2).mono fun e w' h => ⟨?_, h.2⟩
    rw [h.1, bytesOf_nums, hy]
    rfl
end Go.Proofs.YtllomcmhkocdfaaGreatDoor
