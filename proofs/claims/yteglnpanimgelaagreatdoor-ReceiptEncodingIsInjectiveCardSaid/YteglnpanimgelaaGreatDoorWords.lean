/- Plain Lean: how the model's integers of the kinds u32, u8 and u64 read as Lean's own words. -/
import Derived.WalkKit
import Derived.Laws.BitsAll
import Derived.Laws.BitsAllLaws
import Derived.Test.YteglnpanimgelaaGreatDoorSha
namespace Go.Proofs.YteglnpanimgelaaGreatDoor.Words
open Go Go.Proofs.YteglnpanimgelaaGreatDoor

theorem u32_lt (x : UInt32) : x.toNat < 4294967296 := x.toNat_lt
theorem u8_lt (x : UInt8) : x.toNat < 256 := x.toNat_lt

theorem u32_xor (x y : UInt32) : bits .xor .u32 (x.toNat : Int) (y.toNat : Int) = ((x ^^^ y).toNat : Int) := by
  rw [u32_xor_nat _ _ (u32_lt x) (u32_lt y), UInt32.toNat_xor]
theorem u32_and (x y : UInt32) : bits .and .u32 (x.toNat : Int) (y.toNat : Int) = ((x &&& y).toNat : Int) := by
  rw [u32_and_nat _ _ (u32_lt x) (u32_lt y), UInt32.toNat_and]
theorem u32_or (x y : UInt32) : bits .or .u32 (x.toNat : Int) (y.toNat : Int) = ((x ||| y).toNat : Int) := by
  rw [u32_or_nat _ _ (u32_lt x) (u32_lt y), UInt32.toNat_or]
theorem u32_add (x y : UInt32) : IntKind.u32.wrap ((x.toNat : Int) + (y.toNat : Int)) = ((x + y).toNat : Int) := by
  rw [IntKind.wrap_u32', UInt32.toNat_add]; omega
theorem u32_add_mod (x y : UInt32) : ((x.toNat : Int) + (y.toNat : Int)) % 4294967296 = ((x + y).toNat : Int) := by
  rw [UInt32.toNat_add]; omega
theorem u32_not_sub (x : UInt32) : (4294967295 : Int) - (x.toNat : Int) = ((~~~x).toNat : Int) := by
  rw [UInt32.toNat_not]; have := u32_lt x; simp [UInt32.size]; omega
theorem u32_not (x : UInt32) : bits .xor .u32 4294967295 (x.toNat : Int) = ((~~~x).toNat : Int) := by
  have h : (4294967295 : Int) = ((4294967295 : UInt32).toNat : Int) := rfl
  rw [h, u32_xor]
  congr 2
theorem u32_shr (x : UInt32) (n : Nat) (h : n < 32) : (x.toNat : Int) / 2 ^ n = ((x >>> UInt32.ofNat n).toNat : Int) := by
  rw [UInt32.toNat_shiftRight, Nat.shiftRight_eq_div_pow]
  have h1 : (UInt32.ofNat n).toNat % 32 = n := by rw [UInt32.toNat_ofNat_of_lt' (by simp [UInt32.size]; omega)]; omega
  rw [h1]
  simp
theorem u32_shl (x : UInt32) (n : Nat) (h : n < 32) : (x.toNat : Int) * 2 ^ n % 4294967296 = ((x <<< UInt32.ofNat n).toNat : Int) := by
  rw [UInt32.toNat_shiftLeft, Nat.shiftLeft_eq]
  have h1 : (UInt32.ofNat n).toNat % 32 = n := by rw [UInt32.toNat_ofNat_of_lt' (by simp [UInt32.size]; omega)]; omega
  rw [h1]
  simp
theorem rot_right (x : UInt32) (n : Nat) (h1 : 1 ≤ n) (h2 : n ≤ 31) :
    bits .or .u32 ((x.toNat : Int) / 2 ^ n) ((x.toNat : Int) * 2 ^ (32 - n) % 4294967296) = ((Sha.rotr x n).toNat : Int) := by
  rw [u32_shr _ _ (by omega), u32_shl _ _ (by omega), u32_or]; rfl
theorem rot_left (x : UInt32) (n : Nat) (h1 : 1 ≤ n) (h2 : n ≤ 31) :
    bits .or .u32 ((x.toNat : Int) * 2 ^ (32 - n) % 4294967296) ((x.toNat : Int) / 2 ^ n) = ((Sha.rotr x n).toNat : Int) := by
  rw [u32_shr _ _ (by omega), u32_shl _ _ (by omega), u32_or, Sha.rotr, UInt32.or_comm]
theorem and31 (k : Int) (h1 : -31 ≤ k) (h2 : k ≤ -1) : bits .and .u64 (IntKind.u64.wrap k) 31 = 32 + k := by
  obtain ⟨n, hn⟩ := Int.eq_ofNat_of_zero_le (show 0 ≤ IntKind.u64.wrap k from wrap_u64_nonneg k)
  have hw : IntKind.u64.wrap k = 18446744073709551616 + k := by rw [IntKind.wrap_u64]; omega
  have h : (31 : Int) = ((31 : Nat) : Int) := rfl
  rw [hn, h, u64_and_nat _ _ (by omega) (by omega), nat_mask5]
  omega

/-- a word as the model's integer, closed to simp -/
def W (x : UInt32) : Int := (x.toNat : Int)
theorem W_nonneg (x : UInt32) : 0 ≤ W x := by unfold W; omega
theorem W_lt (x : UInt32) : W x < 4294967296 := by unfold W; have := u32_lt x; omega
theorem W_inj {x y : UInt32} (h : W x = W y) : x = y := by unfold W at h; exact UInt32.toNat_inj.1 (by omega)
theorem W_xor (x y : UInt32) : bits .xor .u32 (W x) (W y) = W (x ^^^ y) := u32_xor x y
theorem W_and (x y : UInt32) : bits .and .u32 (W x) (W y) = W (x &&& y) := u32_and x y
theorem W_or (x y : UInt32) : bits .or .u32 (W x) (W y) = W (x ||| y) := u32_or x y
theorem W_add (x y : UInt32) : IntKind.u32.wrap (W x + W y) = W (x + y) := u32_add x y
theorem W_not (x : UInt32) : bits .xor .u32 4294967295 (W x) = W (~~~x) := u32_not x
theorem W_max (x : UInt32) : bits .xor .u32 IntKind.u32.max (W x) = W (~~~x) := u32_not x
theorem W_mod2 (a b : UInt32) : (W a + W b) % 4294967296 = W (a + b) := u32_add_mod a b
theorem W_mod3 (a b c : UInt32) : (W a + W b + W c) % 4294967296 = W (a + b + c) := by rw [← W_mod2, ← W_mod2]; omega
theorem W_mod4 (a b c d : UInt32) : (W a + W b + W c + W d) % 4294967296 = W (a + b + c + d) := by rw [← W_mod2, ← W_mod3]; omega
theorem W_mod5 (a b c d e : UInt32) : (W a + W b + W c + W d + W e) % 4294967296 = W (a + b + c + d + e) := by rw [← W_mod2, ← W_mod4]; omega
theorem W_not_sub (x : UInt32) : IntKind.u32.wrap (4294967295 - W x) = W (~~~x) := by
  have h := W_lt x; have h0 := W_nonneg x
  rw [IntKind.wrap_u32', Int.emod_eq_of_lt (by omega) (by omega)]; exact u32_not_sub x
theorem W_not_mod (x : UInt32) : (4294967295 - W x) % 4294967296 = W (~~~x) := by have h := W_not_sub x; rwa [IntKind.wrap_u32'] at h
theorem W_mod1 (x : UInt32) : W x % 4294967296 = W x := Int.emod_eq_of_lt (W_nonneg x) (W_lt x)
theorem W_byte (x : UInt8) : IntKind.u32.wrap (x.toNat : Int) = W x.toUInt32 := by
  have := u8_lt x
  rw [IntKind.wrap_u32', W, UInt8.toNat_toUInt32]; omega
theorem W_shl24 (x : UInt32) : IntKind.u32.wrap (W x * 16777216) = W (x <<< 24) := by rw [IntKind.wrap_u32']; exact u32_shl x 24 (by decide)
theorem W_shl16 (x : UInt32) : IntKind.u32.wrap (W x * 65536) = W (x <<< 16) := by rw [IntKind.wrap_u32']; exact u32_shl x 16 (by decide)
theorem W_shl8 (x : UInt32) : IntKind.u32.wrap (W x * 256) = W (x <<< 8) := by rw [IntKind.wrap_u32']; exact u32_shl x 8 (by decide)
theorem W_shr3 (x : UInt32) : W x / (8 : Int) = W (x >>> 3) := u32_shr x 3 (by decide)
theorem W_shr10 (x : UInt32) : W x / (1024 : Int) = W (x >>> 10) := u32_shr x 10 (by decide)

theorem join_bytes (x y z t : UInt8) : x.toUInt32 <<< 24 + y.toUInt32 <<< 16 + z.toUInt32 <<< 8 + t.toUInt32 = x.toUInt32 <<< 24 ||| y.toUInt32 <<< 16 ||| z.toUInt32 <<< 8 ||| t.toUInt32 := by
  have hx := u8_lt x; have hy := u8_lt y; have hz := u8_lt z; have ht := u8_lt t
  have e1 : (x.toUInt32 <<< 24).toNat = x.toNat * 2 ^ 24 := by
    rw [UInt32.toNat_shiftLeft, Nat.shiftLeft_eq, UInt8.toNat_toUInt32, show (24 : UInt32).toNat % 32 = 24 from rfl]; omega
  have e2 : (y.toUInt32 <<< 16).toNat = y.toNat * 2 ^ 16 := by
    rw [UInt32.toNat_shiftLeft, Nat.shiftLeft_eq, UInt8.toNat_toUInt32, show (16 : UInt32).toNat % 32 = 16 from rfl]; omega
  have e3 : (z.toUInt32 <<< 8).toNat = z.toNat * 2 ^ 8 := by
    rw [UInt32.toNat_shiftLeft, Nat.shiftLeft_eq, UInt8.toNat_toUInt32, show (8 : UInt32).toNat % 32 = 8 from rfl]; omega
  apply UInt32.toNat_inj.1
  rw [UInt32.toNat_or, UInt32.toNat_or, UInt32.toNat_or, UInt32.toNat_add, UInt32.toNat_add, UInt32.toNat_add, e1, e2, e3, UInt8.toNat_toUInt32]
  rw [nat_join 24 (x.toNat * 2 ^ 24) (y.toNat * 2 ^ 16) (by omega) (by omega), nat_join 16 (x.toNat * 2 ^ 24 + y.toNat * 2 ^ 16) (z.toNat * 2 ^ 8) (by omega) (by omega),
    nat_join 8 (x.toNat * 2 ^ 24 + y.toNat * 2 ^ 16 + z.toNat * 2 ^ 8) t.toNat (by omega) (by omega)]
  omega

theorem u8_of_shift (m s : Nat) : IntKind.u8.wrap ((m : Int) / 2 ^ s) = ((UInt8.ofNat (m >>> s)).toNat : Int) := by
  rw [IntKind.wrap_u8', Nat.shiftRight_eq_div_pow]; simp [UInt8.toNat_ofNat']

theorem W_out (x : UInt32) (s : Nat) (h : s < 32) : IntKind.u8.wrap (W x / 2 ^ s) = (((x >>> UInt32.ofNat s).toUInt8).toNat : Int) := by
  unfold W
  rw [u32_shr x s h, IntKind.wrap_u8', UInt32.toNat_toUInt8]; omega

theorem u8_xor (x y : UInt8) : bits .xor .u8 (x.toNat : Int) (y.toNat : Int) = ((x ^^^ y).toNat : Int) := by
  rw [u8_xor_nat _ _ (u8_lt x) (u8_lt y), UInt8.toNat_xor]

end Go.Proofs.YteglnpanimgelaaGreatDoor.Words
