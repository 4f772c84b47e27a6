/- The reference's Number and first. -/
import Derived.WalkKit
import Derived.Outline
import Derived.Lib.Hide
import Derived.OwnWalk
import Derived.LoopTactic
import Derived.WalkSmall
import Derived.Deep.LoopGhost
import Derived.Deep.DeepMust
import Derived.Test.YteglnpanimgelaaGreatDoorNumber
namespace Go.Proofs.YteglnpanimgelaaGreatDoor
open Go.RowKit Mem
set_option maxRecDepth 100000

theorem elt36n : Elt Tryz.prog 36 5 1 := Elt.mk' (z := .int .u8 0) Tryz.underlying36 (by kernel_rfl) rfl

set_option maxHeartbeats 4000000 in
theorem refNumber (w : World) (x : Int) (n : Nat) (hn : n ≤ 8) :
    Calls Tryz.prog 25 #[.int .i64 x, .int .i64 n] w fun e w' => ∃ v, e = .returned v ∧ Mem.Own u8V w' w.heap.size 5 v (Sha.le (Sha.u64 x) n) ∧ Below w.heap.size w w' := by
  have hwx : IntKind.u64.wrap x = ((Sha.u64 x : Nat) : Int) := by
    rw [IntKind.wrap_u64]; unfold Sha.u64; omega
  have hX64 : Sha.u64 x < 18446744073709551616 := by unfold Sha.u64; omega
  generalize hX : Sha.u64 x = X at hwx hX64
  have HX := Lib.hid hX
  clear hX
  go_enter Tryz.func25, Tryz.ntmps25
  go_wp2_with fail
  have hO0 : Mem.Own u8V (w.alloc (.cells #[] 5)) w.heap.size 5 (.slice (some ⟨w.heap.size, 0, none⟩) 0 0) [] := Mem.Own.new (l := []) w (.cells #[] 5) w.heap.size (Nat.le_refl _) rfl (by simp [maxLen])
  have hb0 : Below w.heap.size w (w.alloc (.cells #[] 5)) := (Below.refl _ w).alloc (Nat.le_refl _) _
  go_loopw [5, 6, 7] (fun vo vy i wr => ∃ (k : Nat), k ≤ n ∧ i = .int .i64 k ∧ vy = .int .u64 ((X >>> (8 * k) : Nat) : Int) ∧ Mem.Own u8V wr w.heap.size 5 vo (Sha.le X k) ∧ Below w.heap.size w wr) (fun _ _ i _ => n - (intOf i).toNat)
  case atStart => exact ⟨0, by omega, rfl, by simp, hO0, hb0⟩
  case round =>
    obtain ⟨k, hk, rfl, rfl, hown, hbl⟩ := hrel
    have hbs := hbl.size
    by_cases hlt : k < n
    · have hq : (k : Int) < (n : Int) := by omega
      obtain ⟨p2, c2, rfl⟩ := hown.slice
      have hlen : (Sha.le X k).length = k := Sha.le_length X k
      have hs : X >>> (8 * (k + 1)) = X >>> (8 * k) / 256 := by rw [Nat.mul_add, Nat.mul_one, Nat.shiftRight_add, Nat.shiftRight_eq_div_pow]
      have hYX : X >>> (8 * k) ≤ X := by rw [Nat.shiftRight_eq_div_pow]; exact Nat.div_le_self _ _
      have HS := Lib.hid (Sha.le_succ X k)
      generalize hY : X >>> (8 * k) = Y at hs HS hYX
      have HSH := Lib.hid hs
      clear hs hY
      have w8 : IntKind.u8.wrap ((Y : Int) % 256) = ((UInt8.ofNat Y).toNat : Int) := by
        rw [IntKind.wrap_u8]; simp
      have HL := Lib.hid hlen
      generalize Sha.le X k = o2 at hown HL HS hlen
      have hol : o2.length ≤ 8 := by omega
      have hyv : (.int .u8 ((Y : Int) % 256) : Value) = u8V (UInt8.ofNat Y) := by simp [u8V]
      have HYV := Lib.hid hyv
      clear hyv w8 hlen
      go_wp2_with (at_builtin; (with_reducible refine append_one elt36n (.tmp 16) (.tmp 20) ?_ ?_ u8V_one ?_ hown (UInt8.ofNat Y) _ ?_ _ ?_ ?_ ?_ ?_ (o2 ++ [UInt8.ofNat Y]) ?_ ?_); rfl; rfl; rfl; exact HYV.out; rfl; omega; omega; exact hbs; rfl; intro p3 c3 w3 hO3 hB3 hG3)
      go_roundw
      case rel => exact ⟨k + 1, by omega, by go_num, by rw [HSH.out]; simp, by rw [HS.out]; rw [List.length_append, List.length_singleton] at hO3; exact hO3, hbl.trans hB3⟩
      case measure => simp [intOf]; omega
    · obtain rfl : k = n := by omega
      go_wp2
      go_ret
      exact ⟨_, rfl, hown, hbl⟩

namespace Sha
/-- the number that the first 8 bytes encode: its j highest bytes -/
def first (d : List UInt8) : Nat → Nat
  | 0 => 0
  | j + 1 => 256 * first d j + (d[7 - j]?.getD 0).toNat
theorem first_lt (d : List UInt8) (j : Nat) : first d j < 256 ^ j := by
  induction j with
  | zero => simp [first]
  | succ j ih =>
    have h : (d[7 - j]?.getD 0).toNat < 256 := UInt8.toNat_lt _
    rw [first, Nat.pow_succ]
    omega
end Sha

set_option maxHeartbeats 4000000 in
theorem refFirst (w : World) (d : List UInt8) (hd : d.length = 32) (D0 : Array Value) (HD : Hid (D0 = (d.map u8V).toArray)) :
    Calls Tryz.prog 23 #[.agg D0] w fun e w' => e = .returned (.int .u64 (Sha.first d 8 : Nat)) ∧ Below w.heap.size w w' := by
  have hrow : Row u8V (w.alloc (.cells D0 23)) w.heap.size 23 d := Row.new w _ (by rw [HD.out])
  go_enter Tryz.func23, Tryz.ntmps23
  go_wp2_with fail
  have hb0 : Below w.heap.size w (w.alloc (.cells D0 23)) := (Below.refl _ w).alloc (Nat.le_refl _) _
  go_loopw [3, 4] (fun vx i wr => ∃ (j : Nat), j ≤ 8 ∧ i = .int .i64 (7 - (j : Int)) ∧ vx = .int .u64 (Sha.first d j : Nat) ∧ Row u8V wr w.heap.size 23 d ∧ Below w.heap.size w wr) (fun _ i _ => (intOf i + 1).toNat)
  case atStart => exact ⟨0, by omega, rfl, rfl, hrow, hb0⟩
  case round =>
    obtain ⟨j, hj, rfl, rfl, hR, hbl⟩ := hrel
    by_cases hlt : j < 8
    · have hq : (0 : Int) ≤ 7 - (j : Int) := by omega
      have n1 : (7 - (j : Int)).toNat = 7 - j := by omega
      have hq2 : (7 - (j : Int)) < 32 := by omega
      have hc : wr.cell? ⟨w.heap.size, 7 - j, none⟩ = some (.int .u8 ((d[7 - j]?.getD 0).toNat : Int)) := hR.cell 0 (7 - j) (by omega)
      have hq3 : (j : Int) ≤ 7 := by omega
      have hF := Sha.first_lt d j
      have hF2 := Sha.first_lt d (j + 1)
      have HF := Lib.hid (show Sha.first d (j + 1) = 256 * Sha.first d j + (d[7 - j]?.getD 0).toNat from rfl)
      have hp1 : 256 ^ j ≤ 256 ^ 7 := Nat.pow_le_pow_right (by omega) (by omega)
      have hby : (d[7 - j]?.getD 0).toNat < 256 := UInt8.toNat_lt _
      generalize Sha.first d j = F at hF HF
      generalize d[7 - j]?.getD 0 = y at hc HF hby
      have hF3 : F < 72057594037927936 := by omega
      clear hF hF2 hp1
      have w1 : IntKind.u64.wrap (256 * (F : Int)) = 256 * (F : Int) := by rw [IntKind.wrap_u64]; omega
      have w2 : IntKind.u64.wrap (y.toNat : Int) = (y.toNat : Int) := by rw [IntKind.wrap_u64]; omega
      have w3 : IntKind.u64.wrap (256 * (F : Int) + (y.toNat : Int)) = 256 * (F : Int) + (y.toNat : Int) := by rw [IntKind.wrap_u64]; omega
      have w4 : IntKind.i64.wrap (7 - (j : Int) - 1) = 7 - (j : Int) - 1 := wI' _ (by omega) (by omega)
      go_wp2
      go_roundw
      case rel => exact ⟨j + 1, by omega, by congr 1; omega, by rw [HF.out]; congr 1, hR, hbl⟩
      case measure => simp [intOf]; omega
    · obtain rfl : j = 8 := by omega
      go_wp2
      go_ret
      exact ⟨rfl, hbl⟩
end Go.Proofs.YteglnpanimgelaaGreatDoor
