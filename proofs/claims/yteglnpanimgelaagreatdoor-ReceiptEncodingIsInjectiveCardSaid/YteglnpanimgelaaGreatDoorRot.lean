/- The two rotations of 32-bit words: math/bits.RotateLeft32 at a negative count, and the reference's rotate. -/
import Derived.WalkKit
import Derived.Lib.Hide
import Derived.Deep.QuietTactic
import Derived.BigQuiet
import Derived.Test.YteglnpanimgelaaGreatDoorProg
import Derived.Test.YteglnpanimgelaaGreatDoorWords
namespace Go.Proofs.YteglnpanimgelaaGreatDoor
open Go.RowKit

set_option maxHeartbeats 400000 in
theorem rotateLeft32 (x : UInt32) (k : Int) (h1 : -31 ≤ k) (h2 : k ≤ -1) (w : World) :
    Calls Tryz.prog 66 #[.int .u32 (Words.W x), .int .i64 k] w fun e w' => e = .returned (.int .u32 (Words.W (Sha.rotr x (-k).toNat))) ∧ w = w' := by
  unfold Words.W
  have ha := Words.and31 k h1 h2
  obtain ⟨n, hn⟩ := Int.eq_ofNat_of_zero_le (show 0 ≤ -k by omega)
  have hl := Words.rot_left x n (by omega) (by omega)
  have hm : (32 + k).toNat = 32 - n := by omega
  have hm2 : (-k).toNat = n := by omega
  obtain rfl : k = -(n : Int) := by omega
  have HL := Lib.hid hl
  have HM := Lib.hid hm
  have HM2 := Lib.hid hm2
  clear hl hm hm2 hn
  go_enter Tryz.func66, Tryz.ntmps66
  go_wp2
  go_ret
  rw [HM2.out]
  refine ⟨?_, rfl⟩
  show Ending.returned (.int .u32 (bits BinOp.or IntKind.u32 (↑x.toNat * 2 ^ (32 + -(n : Int)).toNat % 4294967296) (↑x.toNat / 2 ^ (32 - (32 + -(n : Int))).toNat))) = _
  rw [HM.out, show (32 - (32 + -(n : Int))).toNat = n by omega, HL.out]
set_option maxHeartbeats 400000 in
theorem refRotate (x : UInt32) (k : Int) (h2 : 1 ≤ k) (h3 : k ≤ 31) (w : World) :
    Calls Tryz.prog 64 #[.int .u32 (Words.W x), .int .i64 k] w fun e w' => e = .returned (.int .u32 (Words.W (Sha.rotr x k.toNat))) ∧ ∃ n, w' = w.drewN n := by
  unfold Words.W
  have hx : (x.toNat : Int) < 4294967296 := by have := x.toNat_lt; omega
  go_enter Tryz.func64, Tryz.ntmps64
  go_wp2
  go_quiet (fail)
  go_wp2
  go_ret
  refine ⟨?_, _, rfl⟩
  show Ending.returned (.int .u32 (bits BinOp.or IntKind.u32 (↑x.toNat / 2 ^ k.toNat) (↑x.toNat * 2 ^ (32 - k).toNat % 4294967296))) = _
  rw [show (32 - k).toNat = 32 - k.toNat by omega, Words.rot_right x k.toNat (by omega) (by omega)]
end Go.Proofs.YteglnpanimgelaaGreatDoor
