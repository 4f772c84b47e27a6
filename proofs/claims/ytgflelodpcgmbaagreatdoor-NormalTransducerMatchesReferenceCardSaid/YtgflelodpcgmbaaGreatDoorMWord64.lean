/- Words of 64 bits as the model's integers; math/bits.OnesCount64. -/
import Derived.Test.YtgflelodpcgmbaaGreatDoorMSha
import Derived.Test.YtgflelodpcgmbaaGreatDoorMTree
namespace Go.Proofs.YtgflelodpcgmbaaGreatDoor
open Go Go.RowKit Mem
set_option maxRecDepth 100000

theorem u64_lt (x : UInt64) : x.toNat < 18446744073709551616 := x.toNat_lt
/-- a word as the model's integer, closed to simp -/
def X (x : UInt64) : Int := (x.toNat : Int)
theorem X_nonneg (x : UInt64) : 0 ≤ X x := by unfold X; omega
theorem X_lt (x : UInt64) : X x < 18446744073709551616 := by unfold X; have := u64_lt x; omega
theorem X_inj {x y : UInt64} (h : X x = X y) : x = y := by unfold X at h; exact UInt64.toNat_inj.1 (by omega)
theorem X_and (x y : UInt64) : bits .and .u64 (X x) (X y) = X (x &&& y) := by
  unfold X; rw [u64_and_nat _ _ (u64_lt x) (u64_lt y), UInt64.toNat_and]
theorem X_or (x y : UInt64) : bits .or .u64 (X x) (X y) = X (x ||| y) := by
  unfold X; rw [u64_or_nat _ _ (u64_lt x) (u64_lt y), UInt64.toNat_or]
theorem X_shr (x : UInt64) (n : Nat) (h : n < 64) : X x / 2 ^ n = X (x >>> UInt64.ofNat n) := by
  unfold X
  rw [UInt64.toNat_shiftRight, Nat.shiftRight_eq_div_pow]
  have h1 : (UInt64.ofNat n).toNat % 64 = n := by rw [UInt64.toNat_ofNat_of_lt' (by simp [UInt64.size]; omega)]; omega
  rw [h1]
  simp
theorem X_add (x y : UInt64) : IntKind.u64.wrap (X x + X y) = X (x + y) := by
  unfold X; rw [IntKind.wrap_u64, UInt64.toNat_add]; omega
theorem X_addm (x y : UInt64) : (X x + X y) % 18446744073709551616 = X (x + y) := by
  unfold X; rw [UInt64.toNat_add]; omega
theorem X_and127 (x : UInt64) : bits .and .i64 (wrap64 (X x)) 127 = X (x &&& 127) := by
  have h1 : BitVec.ofInt 64 (wrap64 (X x)) = BitVec.ofInt 64 (X x) := by
    apply BitVec.eq_of_toNat_eq
    rw [BitVec.toNat_ofInt, BitVec.toNat_ofInt]
    have e : wrap64 (X x) % 18446744073709551616 = X x % 18446744073709551616 := by unfold wrap64; omega
    exact congrArg Int.toNat e
  have h2 : (BitVec.ofInt 64 (X x)).toNat = x.toNat := ofInt_u64 x.toNat (u64_lt x)
  have h3 : (BitVec.ofInt 64 (127 : Int)).toNat = 127 := rfl
  have h4 : (x &&& 127).toNat = x.toNat &&& 127 := by rw [UInt64.toNat_and]; rfl
  have h5 : x.toNat &&& 127 < 2 ^ 7 := Nat.and_lt_two_pow _ (by decide)
  show IntKind.i64.wrap ((BitVec.ofInt 64 (wrap64 (X x)) &&& BitVec.ofInt 64 (127 : Int)).toNat : Int) = _
  rw [h1, BitVec.toNat_and, h2, h3]
  unfold X
  rw [h4]
  exact wI _ (by omega) (by omega)
/-- math/bits.OnesCount64 -/
def oc64 (x : UInt64) : UInt64 :=
  let x := (x >>> 1 &&& 6148914691236517205) + (x &&& 6148914691236517205)
  let x := (x >>> 2 &&& 3689348814741910323) + (x &&& 3689348814741910323)
  let x := (x >>> 4 + x) &&& 1085102592571150095
  let x := x + x >>> 8
  let x := x + x >>> 16
  let x := x + x >>> 32
  x &&& 127

theorem onesCount (w : World) (x : UInt64) : Calls Tryz.prog 68 #[.int .u64 (X x)] w fun e w' => e = .returned (.int .i64 (X (oc64 x))) ∧ w' = w := by
  have e1 : ∀ x : UInt64, X x / (2 : Int) = X (x >>> 1) := fun x => X_shr x 1 (by decide)
  have e2 : ∀ x : UInt64, X x / (4 : Int) = X (x >>> 2) := fun x => X_shr x 2 (by decide)
  have e4 : ∀ x : UInt64, X x / (16 : Int) = X (x >>> 4) := fun x => X_shr x 4 (by decide)
  have e8 : ∀ x : UInt64, X x / (256 : Int) = X (x >>> 8) := fun x => X_shr x 8 (by decide)
  have e16 : ∀ x : UInt64, X x / (65536 : Int) = X (x >>> 16) := fun x => X_shr x 16 (by decide)
  have e32 : ∀ x : UInt64, X x / (4294967296 : Int) = X (x >>> 32) := fun x => X_shr x 32 (by decide)
  have m1 : ∀ x : UInt64, bits .and .u64 (X x) 6148914691236517205 = X (x &&& 6148914691236517205) := fun x => X_and x 6148914691236517205
  have m2 : ∀ x : UInt64, bits .and .u64 (X x) 3689348814741910323 = X (x &&& 3689348814741910323) := fun x => X_and x 3689348814741910323
  have m4 : ∀ x : UInt64, bits .and .u64 (X x) 1085102592571150095 = X (x &&& 1085102592571150095) := fun x => X_and x 1085102592571150095
  have ha := X_add
  have hb := X_addm
  have hc := X_and127
  go_enter Tryz.func68, Tryz.ntmps68
  go_wp2_with fail
  go_ret
  exact ⟨rfl, rfl⟩
end Go.Proofs.YtgflelodpcgmbaaGreatDoor
/- Classes of bytes: Size, Has. -/
namespace Go.Proofs.YtgflelodpcgmbaaGreatDoor
open Go Go.RowKit Mem
set_option maxRecDepth 100000

/-- a class: four words -/
structure Cl where
  a : UInt64
  b : UInt64
  c : UInt64
  d : UInt64
deriving DecidableEq
abbrev clA (c : Cl) : Array Value := #[.int .u64 (X c.a), .int .u64 (X c.b), .int .u64 (X c.c), .int .u64 (X c.d)]
def clL (c : Cl) : List OC := [ow (X c.a), ow (X c.b), ow (X c.c), ow (X c.d)]
theorem aggCl : AggT Tryz.prog 80 4 := ⟨fun _ => by kernel_rfl, fun _ => by kernel_rfl⟩
theorem oc64_le (x : UInt64) : X (oc64 x) ≤ 127 := by
  have h : ∀ y : UInt64, X (y &&& 127) ≤ 127 := by
    intro y
    have h2 : (y &&& 127).toNat < 2 ^ 7 := by rw [UInt64.toNat_and]; exact Nat.and_lt_two_pow _ (by decide)
    unfold X
    omega
  exact h _
/-- the number of members -/
def Cl.size (c : Cl) : Int := X (oc64 c.a) + X (oc64 c.b) + X (oc64 c.c) + X (oc64 c.d)

set_option maxHeartbeats 4000000 in
theorem clSize (w : World) (c : Cl) : Calls Tryz.prog 34 #[.agg (clA c)] w fun e w' => e = .returned (.int .i64 c.size) ∧ Below w.heap.size w w' := by
  have x0 : ∀ w, (Instr.index 80 (.agg (clA c)) (.int .i64 0)).run Tryz.prog w = .ok (.int .u64 (X c.a)) w := fun w => by first | rfl | kernel_rfl
  have x1 : ∀ w, (Instr.index 80 (.agg (clA c)) (.int .i64 1)).run Tryz.prog w = .ok (.int .u64 (X c.b)) w := fun w => by first | rfl | kernel_rfl
  have x2 : ∀ w, (Instr.index 80 (.agg (clA c)) (.int .i64 2)).run Tryz.prog w = .ok (.int .u64 (X c.c)) w := fun w => by first | rfl | kernel_rfl
  have x3 : ∀ w, (Instr.index 80 (.agg (clA c)) (.int .i64 3)).run Tryz.prog w = .ok (.int .u64 (X c.d)) w := fun w => by first | rfl | kernel_rfl
  have hr : Row oV (w.alloc (.cells (clA c) 80)) w.heap.size 80 (clL c) := Row.new _ _ rfl
  have hB : Below w.heap.size w (w.alloc (.cells (clA c) 80)) := (Below.refl _ _).alloc (Nat.le_refl _) _
  go_enter Tryz.func34, Tryz.ntmps34
  go_wp2_with (first
    | ((with_reducible refine load_agg (f := oV) (l := clL c) (C := clA c) aggCl (.tmp 1) ?_ ?_ w.heap.size 0 ?_ hr.at rfl ?_); rfl; rfl; rfl))
  generalize (w.alloc (.cells (clA c) 80)) = W at hB ⊢
  clear hr
  have b1 := oc64_le c.a; have b2 := oc64_le c.b; have b3 := oc64_le c.c; have b4 := oc64_le c.d
  have n1 := X_nonneg (oc64 c.a); have n2 := X_nonneg (oc64 c.b); have n3 := X_nonneg (oc64 c.c); have n4 := X_nonneg (oc64 c.d)
  have w1 : wrap64 (X (oc64 c.a)) = X (oc64 c.a) := by unfold wrap64; omega
  have w2 : wrap64 (X (oc64 c.a) + X (oc64 c.b)) = X (oc64 c.a) + X (oc64 c.b) := by unfold wrap64; omega
  have w3 : wrap64 (X (oc64 c.a) + X (oc64 c.b) + X (oc64 c.c)) = X (oc64 c.a) + X (oc64 c.b) + X (oc64 c.c) := by unfold wrap64; omega
  have w4 : wrap64 (X (oc64 c.a) + X (oc64 c.b) + X (oc64 c.c) + X (oc64 c.d)) = X (oc64 c.a) + X (oc64 c.b) + X (oc64 c.c) + X (oc64 c.d) := by unfold wrap64; omega
  refine wp_loop_rounds 5 ?_
  refine rounds_step (n := 4) ?_
  go_wp2_with fail
  refine (onesCount _ c.a).mono ?_
  rintro e W0 ⟨rfl, rfl⟩
  go_wp2_with fail
  refine rounds_step (n := 3) ?_
  go_wp2_with fail
  refine (onesCount _ c.b).mono ?_
  rintro e W1 ⟨rfl, rfl⟩
  go_wp2_with fail
  refine rounds_step (n := 2) ?_
  go_wp2_with fail
  refine (onesCount _ c.c).mono ?_
  rintro e W2 ⟨rfl, rfl⟩
  go_wp2_with fail
  refine rounds_step (n := 1) ?_
  go_wp2_with fail
  refine (onesCount _ c.d).mono ?_
  rintro e W3 ⟨rfl, rfl⟩
  go_wp2_with fail
  refine rounds_step (n := 0) ?_
  go_wp2
  go_ret
  exact ⟨rfl, hB⟩
end Go.Proofs.YtgflelodpcgmbaaGreatDoor
/- Classes of bytes: Has. -/
namespace Go.Proofs.YtgflelodpcgmbaaGreatDoor
open Go Go.RowKit Mem
set_option maxRecDepth 100000

def Cl.w (c : Cl) (i : Nat) : UInt64 := match i with | 0 => c.a | 1 => c.b | 2 => c.c | _ => c.d
/-- membership -/
def Cl.has (c : Cl) (b : UInt8) : Bool := c.w (b.toNat / 64) &&& ((1 : UInt64) <<< UInt64.ofNat (b.toNat % 64)) != 0
theorem clL_get (c : Cl) (q : Nat) (h : q < 4) : (clL c)[q]? = some (ow (X (c.w q))) := by
  rcases (by omega : q = 0 ∨ q = 1 ∨ q = 2 ∨ q = 3) with rfl | rfl | rfl | rfl <;> rfl

theorem X_pow (r : Nat) (h : r < 64) : IntKind.u64.wrap ((2 : Int) ^ r) = X ((1 : UInt64) <<< UInt64.ofNat r) := by
  unfold X
  rw [IntKind.wrap_u64, UInt64.toNat_shiftLeft, Nat.shiftLeft_eq]
  have h1 : (UInt64.ofNat r).toNat % 64 = r := by rw [UInt64.toNat_ofNat_of_lt' (by simp [UInt64.size]; omega)]; omega
  rw [h1, show (1 : UInt64).toNat = 1 from rfl, Nat.one_mul]
  simp
theorem has_bits (x : UInt64) (r : Nat) (h : r < 64) : (bits .and .u64 (X x) (IntKind.u64.wrap ((2 : Int) ^ r)) != 0) = (x &&& ((1 : UInt64) <<< UInt64.ofNat r) != 0) := by
  rw [X_pow r h, X_and]
  generalize x &&& _ = y
  have : X y = 0 ↔ y = 0 := ⟨fun h => X_inj (y := 0) h, fun h => by rw [h]; rfl⟩
  rw [Bool.eq_iff_iff]
  simp [this]

set_option maxHeartbeats 4000000 in
theorem clHas (w : World) (c : Cl) (b : UInt8) : Calls Tryz.prog 96 #[.agg (clA c), .int .u8 (b.toNat : Int)] w fun e w' => e = .returned (.bool (c.has b)) ∧ Below w.heap.size w w' := by
  obtain ⟨q, r, hq, hr, hn⟩ : ∃ q r, q < 4 ∧ r < 64 ∧ b.toNat = 64 * q + r := ⟨b.toNat / 64, b.toNat % 64, by have := b.toNat_lt; omega, by omega, by omega⟩
  have hh : c.has b = (c.w q &&& ((1 : UInt64) <<< UInt64.ofNat r) != 0) := by
    unfold Cl.has
    rw [show b.toNat / 64 = q by omega, show b.toNat % 64 = r by omega]
  rw [hh]
  have hrow : Row oV (w.alloc (.cells (clA c) 80)) w.heap.size 80 (clL c) := Row.new _ _ rfl
  have hB : Below w.heap.size w (w.alloc (.cells (clA c) 80)) := (Below.refl _ _).alloc (Nat.le_refl _) _
  have hc : (w.alloc (.cells (clA c) 80)).cell? ⟨w.heap.size, q, none⟩ = some (.int .u64 (X (c.w q))) := by rw [hrow.cell?, clL_get c q hq]; rfl
  have d1 : ((b.toNat : Int)).tdiv 64 = (q : Int) := by rw [hn, Int.tdiv_eq_ediv_of_nonneg (by omega)]; omega
  have d2 : ((b.toNat : Int)).tmod 64 = (r : Int) := by rw [hn, Int.tmod_eq_emod_of_nonneg (by omega)]; omega
  have d3 : (b.toNat : Int) / 64 = (q : Int) := by omega
  have d4 : (b.toNat : Int) % 64 = (r : Int) := by omega
  clear hn hrow hh
  go_enter Tryz.func96, Tryz.ntmps96
  go_upto_region 1 with (fail)
  generalize (w.alloc (.cells (clA c) 80)) = W at hB hc ⊢
  have hq' : (q : Int) < 4 := by omega
  go_wp2_with fail
  go_ret
  exact ⟨by rw [← has_bits _ r hr]; rfl, hB⟩
end Go.Proofs.YtgflelodpcgmbaaGreatDoor
