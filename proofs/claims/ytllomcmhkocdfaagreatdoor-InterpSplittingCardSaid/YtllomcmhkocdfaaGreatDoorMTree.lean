/- The blocks and statements of a program of one statement form a tree. -/
import Derived.RegionTactic
import Derived.Test.YtllomcmhkocdfaaGreatDoorMDial2
import Derived.Test.YtllomcmhkocdfaaGreatDoorMWords
namespace Go.Proofs.YtllomcmhkocdfaaGreatDoor
open Go.RowKit Mem
set_option maxRecDepth 100000

end Go.Proofs.YtllomcmhkocdfaaGreatDoor

/- A program of one statement that appends a field is well-formed; its bound. -/
namespace Go.Proofs.YtllomcmhkocdfaaGreatDoor
open Go.RowKit Mem
set_option maxRecDepth 100000

end Go.Proofs.YtllomcmhkocdfaaGreatDoor

/- Words of 64 bits as the model's integers; math/bits.OnesCount64. -/
namespace Go.Proofs.YtllomcmhkocdfaaGreatDoor
open Go Go.RowKit Mem
set_option maxRecDepth 100000

theorem u64_lt (x : UInt64) : x.toNat < 18446744073709551616 := x.toNat_lt
/-- a word as the model's integer, closed to simp -/
def X (x : UInt64) : Int := (x.toNat : Int)
theorem X_inj {x y : UInt64} (h : X x = X y) : x = y := by unfold X at h; exact UInt64.toNat_inj.1 (by omega)
theorem X_and (x y : UInt64) : bits .and .u64 (X x) (X y) = X (x &&& y) := by
  unfold X; rw [u64_and_nat _ _ (u64_lt x) (u64_lt y), UInt64.toNat_and]
/-- math/bits.OnesCount64 -/
def oc64 (x : UInt64) : UInt64 :=
  let x := (x >>> 1 &&& 6148914691236517205) + (x &&& 6148914691236517205)
  let x := (x >>> 2 &&& 3689348814741910323) + (x &&& 3689348814741910323)
  let x := (x >>> 4 + x) &&& 1085102592571150095
  let x := x + x >>> 8
  let x := x + x >>> 16
  let x := x + x >>> 32
  x &&& 127

end Go.Proofs.YtllomcmhkocdfaaGreatDoor

/- Classes of bytes: Size, Has. -/
namespace Go.Proofs.YtllomcmhkocdfaaGreatDoor
open Go Go.RowKit Mem
set_option maxRecDepth 100000

/-- a class: four words -/
structure Cl where
  a : UInt64
  b : UInt64
  c : UInt64
  d : UInt64
deriving DecidableEq
abbrev clA (c : Cl) : Array Value := #[.int .u64 (X c.a), .int .u64 (X c.b), .int .u64 (X c.c), .int .u64 (X c.d)]
def clL (c : Cl) : List OC := [ow (X c.a), ow (X c.b), ow (X c.c), ow (X c.d)]
theorem aggCl : AggT Tryz.prog 34 4 := ⟨fun _ => by kernel_rfl, fun _ => by kernel_rfl⟩
/-- the number of members -/
def Cl.size (c : Cl) : Int := X (oc64 c.a) + X (oc64 c.b) + X (oc64 c.c) + X (oc64 c.d)

end Go.Proofs.YtllomcmhkocdfaaGreatDoor

/- Classes of bytes: Has. -/
namespace Go.Proofs.YtllomcmhkocdfaaGreatDoor
open Go Go.RowKit Mem
set_option maxRecDepth 100000

def Cl.w (c : Cl) (i : Nat) : UInt64 := match i with | 0 => c.a | 1 => c.b | 2 => c.c | _ => c.d
/-- membership -/
def Cl.has (c : Cl) (b : UInt8) : Bool := c.w (b.toNat / 64) &&& ((1 : UInt64) <<< UInt64.ofNat (b.toNat % 64)) != 0
theorem clL_get (c : Cl) (q : Nat) (h : q < 4) : (clL c)[q]? = some (ow (X (c.w q))) := by
  rcases (by omega : q = 0 ∨ q = 1 ∨ q = 2 ∨ q = 3) with rfl | rfl | rfl | rfl <;> rfl

theorem X_pow (r : Nat) (h : r < 64) : IntKind.u64.wrap ((2 : Int) ^ r) = X ((1 : UInt64) <<< UInt64.ofNat r) := by
  unfold X
  rw [IntKind.wrap_u64, UInt64.toNat_shiftLeft, Nat.shiftLeft_eq]
  have h1 : (UInt64.ofNat r).toNat % 64 = r := by rw [UInt64.toNat_ofNat_of_lt' (by simp [UInt64.size]; omega)]; omega
  rw [h1, show (1 : UInt64).toNat = 1 from rfl, Nat.one_mul]
  simp
theorem has_bits (x : UInt64) (r : Nat) (h : r < 64) : (bits .and .u64 (X x) (IntKind.u64.wrap ((2 : Int) ^ r)) != 0) = (x &&& ((1 : UInt64) <<< UInt64.ofNat r) != 0) := by
  rw [X_pow r h, X_and]
  generalize x &&& _ = y
  have : X y = 0 ↔ y = 0 := ⟨fun h => X_inj (y := 0) h, fun h => by rw [h]; rfl⟩
  rw [Bool.eq_iff_iff]
  simp [this]

set_option maxHeartbeats 4000000 in
theorem clHas (w : World) (c : Cl) (b : UInt8) : Calls Tryz.prog 86 #[.agg (clA c), .int .u8 (b.toNat : Int)] w fun e w' => e = .returned (.bool (c.has b)) ∧ Below w.heap.size w w' := by
  obtain ⟨q, r, hq, hr, hn⟩ : ∃ q r, q < 4 ∧ r < 64 ∧ b.toNat = 64 * q + r := ⟨b.toNat / 64, b.toNat % 64, by have := b.toNat_lt; omega, by omega, by omega⟩
  have hh : c.has b = (c.w q &&& ((1 : UInt64) <<< UInt64.ofNat r) != 0) := by
    unfold Cl.has
    rw [show b.toNat / 64 = q by omega, show b.toNat % 64 = r by omega]
  rw [hh]
  have hrow : Row oV (w.alloc (.cells (clA c) 34)) w.heap.size 34 (clL c) := Row.new _ _ rfl
  have hB : Below w.heap.size w (w.alloc (.cells (clA c) 34)) := (Below.refl _ _).alloc (Nat.le_refl _) _
  have hc : (w.alloc (.cells (clA c) 34)).cell? ⟨w.heap.size, q, none⟩ = some (.int .u64 (X (c.w q))) := by rw [hrow.cell?, clL_get c q hq]; rfl
  have d1 : ((b.toNat : Int)).tdiv 64 = (q : Int) := by rw [hn, Int.tdiv_eq_ediv_of_nonneg (by omega)]; omega
  have d2 : ((b.toNat : Int)).tmod 64 = (r : Int) := by rw [hn, Int.tmod_eq_emod_of_nonneg (by omega)]; omega
  have d3 : (b.toNat : Int) / 64 = (q : Int) := by omega
  have d4 : (b.toNat : Int) % 64 = (r : Int) := by omega
  clear hn hrow hh
  go_enter Tryz.func86, Tryz.ntmps86
  go_upto_region 1 with (fail)
  generalize (w.alloc (.cells (clA c) 34)) = W at hB hc ⊢
  have hq' : (q : Int) < 4 := by omega
  go_wp2_with fail
  go_ret
  exact ⟨by rw [← has_bits _ r hr]; rfl, hB⟩
end Go.Proofs.YtllomcmhkocdfaaGreatDoor

/- slices.Sort and slices.Compact at one string. -/
namespace Go.Proofs.YtllomcmhkocdfaaGreatDoor
open Go.RowKit Mem
set_option maxRecDepth 100000

end Go.Proofs.YtllomcmhkocdfaaGreatDoor
