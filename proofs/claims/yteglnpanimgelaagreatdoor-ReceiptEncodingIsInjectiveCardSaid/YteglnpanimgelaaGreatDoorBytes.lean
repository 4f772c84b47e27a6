/- receipt's buffer: bytes with their length in front. -/
import Derived.WalkKit
import Derived.Outline
import Derived.Lib.Hide
import Derived.OwnWalk
import Derived.LoopTactic
import Derived.WalkSmall
import Derived.Deep.LoopGhost
import Derived.Deep.DeepMust
import Derived.BigRegion
import Derived.Test.YteglnpanimgelaaGreatDoorAppT
import Derived.Test.YteglnpanimgelaaGreatDoorNumber
namespace Go.Proofs.YteglnpanimgelaaGreatDoor
open Go.RowKit Mem
set_option maxRecDepth 100000

namespace Sha
/-- bytes with their length in front -/
def lb (m : List UInt8) : List UInt8 := le m.length 4 ++ m
theorem lb_length (m : List UInt8) : (lb m).length = 4 + m.length := by simp [lb, le_length]
theorem u64_nat (n : Nat) (h : n < 18446744073709551616) : u64 (n : Int) = n := by unfold u64; omega
end Sha

set_option maxHeartbeats 1000000 in
theorem bufBytes (w : World) (pb B : Nat) (v : Value) (l : List UInt8) (h : Buf u8V w pb 67 B 5 v l) (hBw : B ≤ w.heap.size) (hl : l.length ≤ 1000000000) (u : Value) (m : List UInt8)
    (hu : Ext u8V w (fun b => b ≠ pb ∧ some b ≠ v.ownBlock) u m) (hm : m.length ≤ 1000000000) :
    Calls Tryz.prog 26 #[.pointer (some ⟨pb, 0, none⟩), u] w fun e w' => e = .returned (.tuple #[]) ∧ ∃ v', Buf u8V w' pb 67 B 5 v' (l ++ Sha.lb m) ∧ BufStep w w' pb v v' := by
  obtain ⟨pu, cu, rfl⟩ := hu.len
  go_enter Tryz.func26, Tryz.ntmps26
  go_wp2_with fail
  refine (bufNumber w pb B v l h hBw (by omega) m.length 4 (by omega)).mono ?_
  rintro e w1 ⟨rfl, v1, hb1, hs1⟩
  rw [Sha.u64_nat _ (by omega)] at hb1
  have hc := cell_var hb1.cell
  have hown := hb1.own
  have hu1 := hu.step hs1 (fun b hb => hb)
  have hpl : pb < w1.heap.size := (Array.getElem?_eq_some_iff.1 hb1.cell).1
  have hBr : B ≤ w1.heap.size := Nat.le_trans hBw hs1.size
  have hX : (l ++ Sha.le m.length 4).length + m.length ≤ 3000000000 := by simp [Sha.le_length]; omega
  go_wp2_with ((with_reducible refine append_ext (w := w1) (v := v1) eltBuf (Tryz.underlying36) _ _ rfl rfl u8V_one ?_ hown m _ ?_ hu1 ?_ ?_ hBr _ rfl ?_); rfl; rfl; omega; omega; intro p3 c3 w3 hO3 hG3 hW3; have hcell3 := (hG3.block pb hpl (fun e => by have := hown.lt pb e.symm; have := hb1.lt; omega)).trans hb1.cell; have hcv := cell_var hcell3; have hfv := frozen_var hcell3)
  go_end0
  simp only [List.length_append, Nat.add_assoc] at hO3 hW3
  refine ⟨rfl, _, ⟨set_var hcell3 _, ?_, hb1.lt⟩, hs1.trans (BufStep.app1 hG3 hW3)⟩
  rw [List.append_assoc] at hO3
  exact own_set_var hO3 hb1.lt _
end Go.Proofs.YteglnpanimgelaaGreatDoor
