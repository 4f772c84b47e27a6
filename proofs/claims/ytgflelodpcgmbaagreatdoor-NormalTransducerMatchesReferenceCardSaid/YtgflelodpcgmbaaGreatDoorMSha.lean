/- Plain Lean: SHA-256 and HMAC on lists of bytes; no program in sight. -/
import Derived.WalkKit
import Derived.Laws.BitsAll
import Derived.Laws.BitsAllLaws
namespace Go.Proofs.YtgflelodpcgmbaaGreatDoor.Sha

def rotr (x : UInt32) (n : Nat) : UInt32 := (x >>> UInt32.ofNat n) ||| (x <<< UInt32.ofNat (32 - n))

/-- the word number i of a block -/
def word (b : List UInt8) (i : Nat) : UInt32 :=
  (b[4 * i]?.getD 0).toUInt32 <<< 24 ||| (b[4 * i + 1]?.getD 0).toUInt32 <<< 16 ||| (b[4 * i + 2]?.getD 0).toUInt32 <<< 8 ||| (b[4 * i + 3]?.getD 0).toUInt32
def low (x : UInt32) : UInt32 := rotr x 7 ^^^ rotr x 18 ^^^ (x >>> 3)
def high (y : UInt32) : UInt32 := rotr y 17 ^^^ rotr y 19 ^^^ (y >>> 10)
def next (w : List UInt32) (n : Nat) : UInt32 := (w[n - 16]?.getD 0) + low (w[n - 15]?.getD 0) + (w[n - 7]?.getD 0) + high (w[n - 2]?.getD 0)
/-- the first n words of the schedule -/
def sched (b : List UInt8) : Nat → List UInt32
  | 0 => []
  | n + 1 => sched b n ++ [if n < 16 then word b n else next (sched b n) n]

def consts : List UInt32 := [1116352408, 1899447441, 3049323471, 3921009573, 961987163, 1508970993, 2453635748, 2870763221, 3624381080, 310598401, 607225278, 1426881987, 1925078388, 2162078206, 2614888103, 3248222580, 3835390401, 4022224774, 264347078, 604807628, 770255983, 1249150122, 1555081692, 1996064986, 2554220882, 2821834349, 2952996808, 3210313671, 3336571891, 3584528711, 113926993, 338241895, 666307205, 773529912, 1294757372, 1396182291, 1695183700, 1986661051, 2177026350, 2456956037, 2730485921, 2820302411, 3259730800, 3345764771, 3516065817, 3600352804, 4094571909, 275423344, 430227734, 506948616, 659060556, 883997877, 958139571, 1322822218, 1537002063, 1747873779, 1955562222, 2024104815, 2227730452, 2361852424, 2428436474, 2756734187, 3204031479, 3329325298]
def init : List UInt32 := [1779033703, 3144134277, 1013904242, 2773480762, 1359893119, 2600822924, 528734635, 1541459225]

structure St where
  a : UInt32
  b : UInt32
  c : UInt32
  d : UInt32
  e : UInt32
  f : UInt32
  g : UInt32
  h : UInt32
def St.list (t : St) : List UInt32 := [t.a, t.b, t.c, t.d, t.e, t.f, t.g, t.h]
def St.of (l : List UInt32) : St := ⟨(l[0]?.getD 0), (l[1]?.getD 0), (l[2]?.getD 0), (l[3]?.getD 0), (l[4]?.getD 0), (l[5]?.getD 0), (l[6]?.getD 0), (l[7]?.getD 0)⟩
def tx (t : St) (k w : UInt32) : UInt32 := t.h + (rotr t.e 6 ^^^ rotr t.e 11 ^^^ rotr t.e 25) + ((t.e &&& t.f) ^^^ (~~~t.e &&& t.g)) + k + w
def ty (t : St) : UInt32 := (rotr t.a 2 ^^^ rotr t.a 13 ^^^ rotr t.a 22) + ((t.a &&& t.b) ^^^ (t.a &&& t.c) ^^^ (t.b &&& t.c))
def rnd (t : St) (k w : UInt32) : St := ⟨tx t k w + ty t, t.a, t.b, t.c, t.d + tx t k w, t.e, t.f, t.g⟩
/-- n rounds -/
def rnds (ws : List UInt32) (t : St) : Nat → St
  | 0 => t
  | n + 1 => rnd (rnds ws t n) ((consts[n]?.getD 0)) ((ws[n]?.getD 0))
/-- the first n words added -/
def addTo (s t : List UInt32) : Nat → List UInt32
  | 0 => s
  | n + 1 => (addTo s t n).set n (((addTo s t n)[n]?.getD 0) + (t[n]?.getD 0))
def compress (s : List UInt32) (b : List UInt8) : List UInt32 := addTo s (rnds (sched b 64) (St.of s) 64).list 8

def be (n k : Nat) : List UInt8 := (List.range k).map fun i => UInt8.ofNat (n >>> (56 - 8 * i))
def be64 (n : Nat) : List UInt8 := be n 8
/-- how many zero bytes follow a message of n bytes and the byte 0x80 -/
def zeros (n : Nat) : Nat := (119 - n % 64) % 64
def pad (b : List UInt8) : List UInt8 := b ++ [128] ++ List.replicate (zeros b.length) 0 ++ be64 (8 * b.length)
/-- n blocks -/
def blocks (s : List UInt32) (p : List UInt8) : Nat → List UInt32
  | 0 => s
  | n + 1 => compress (blocks s p n) ((p.drop (64 * n)).take 64)
def outByte (s : List UInt32) (i : Nat) : UInt8 := ((s[i / 4]?.getD 0) >>> UInt32.ofNat (24 - 8 * (i % 4))).toUInt8
def outN (s : List UInt32) (k : Nat) : List UInt8 := (List.range k).map (outByte s) ++ List.replicate (32 - k) 0
def out (s : List UInt32) : List UInt8 := (List.range 32).map (outByte s)
def sum (b : List UInt8) : List UInt8 := out (blocks init (pad b) ((pad b).length / 64))
def maskN (key : List UInt8) (m : UInt8) (k : Nat) : List UInt8 := (List.range k).map fun i => if i < 32 then (key[i]?.getD 0) ^^^ m else m
def masked (key : List UInt8) (m : UInt8) : List UInt8 := maskN key m 64
def keyed (key b : List UInt8) : List UInt8 := sum (masked key 92 ++ sum (masked key 54 ++ b))

theorem addTo_len (s t : List UInt32) (n : Nat) : (addTo s t n).length = s.length := by
  induction n with
  | zero => rfl
  | succ n ih => simp [addTo, ih]
theorem be_succ (n k : Nat) : be n (k + 1) = be n k ++ [UInt8.ofNat (n >>> (56 - 8 * k))] := by simp [be, List.range_succ]
theorem be_length (n k : Nat) : (be n k).length = k := by simp [be]
theorem zeros_lt (n j : Nat) (h : j < zeros n) : (n + 1 + j) % 64 ≠ 56 := by unfold zeros at h; omega
theorem zeros_eq (n : Nat) : (n + 1 + zeros n) % 64 = 56 := by unfold zeros; omega
theorem maskN_length (key : List UInt8) (m : UInt8) (k : Nat) : (maskN key m k).length = k := by simp [maskN]
theorem maskN_lo (key : List UInt8) (m : UInt8) (k : Nat) (h : k < 32) : maskN key m k ++ [(key[k]?.getD 0) ^^^ m] = maskN key m (k + 1) := by simp [maskN, List.range_succ, h]
theorem maskN_hi (key : List UInt8) (m : UInt8) (k : Nat) (h : ¬ k < 32) : maskN key m k ++ [m] = maskN key m (k + 1) := by simp [maskN, List.range_succ, h]
theorem outN_set (s : List UInt32) (k : Nat) (h : k < 32) : (outN s k).set k (outByte s k) = outN s (k + 1) := by
  obtain ⟨m, hm⟩ : ∃ j, 32 - k = j + 1 := ⟨31 - k, by omega⟩
  unfold outN
  rw [hm, List.set_append_right _ _ (by simp), List.length_map, List.length_range, Nat.sub_self, List.replicate_succ, List.set_cons_zero, List.range_succ, show 32 - (k + 1) = m by omega]
  simp
theorem outN_length (s : List UInt32) (k : Nat) (h : k ≤ 32) : (outN s k).length = 32 := by simp [outN]; omega
theorem outN_all (s : List UInt32) : outN s 32 = out s := by simp [outN, out]
theorem pad_length (b : List UInt8) : (pad b).length = b.length + 9 + zeros b.length := by simp [pad, be64, be_length]; omega
theorem pad_blocks (b : List UInt8) : (pad b).length = 64 * ((pad b).length / 64) := by
  have := pad_length b; unfold zeros at this; omega
theorem blocks_length (s : List UInt32) (p : List UInt8) (n : Nat) : (blocks s p n).length = s.length := by
  induction n with
  | zero => rfl
  | succ n ih => rw [blocks, compress, addTo_len, ih]
/-- the first k bytes of a masked key, the others 0 -/
def maskP (key : List UInt8) (m : UInt8) (k : Nat) : List UInt8 := maskN key m k ++ List.replicate (64 - k) 0
theorem maskP_set (key : List UInt8) (m : UInt8) (k : Nat) (h : k < 64) (x : UInt8) (hx : maskN key m k ++ [x] = maskN key m (k + 1)) : (maskP key m k).set k x = maskP key m (k + 1) := by
  obtain ⟨j, hj⟩ : ∃ j, 64 - k = j + 1 := ⟨63 - k, by omega⟩
  unfold maskP
  rw [hj, List.set_append_right _ _ (by rw [maskN_length]; omega), maskN_length, Nat.sub_self, List.replicate_succ, List.set_cons_zero, ← hx, show 64 - (k + 1) = j by omega]
  simp
theorem maskP_length (key : List UInt8) (m : UInt8) (k : Nat) (h : k ≤ 64) : (maskP key m k).length = 64 := by
  unfold maskP; rw [List.length_append, maskN_length, List.length_replicate]; omega
theorem maskP_all (key : List UInt8) (m : UInt8) : maskP key m 64 = masked key m := by simp [maskP, masked]
theorem sched_length (b : List UInt8) (n : Nat) : (sched b n).length = n := by
  induction n with
  | zero => rfl
  | succ n ih => simp [sched, ih]
theorem sched_set (b : List UInt8) (k m : Nat) (x : UInt32) (h : x = (if k < 16 then word b k else next (sched b k) k)) (hm : 0 < m) :
    (sched b k ++ List.replicate m 0).set k x = sched b (k + 1) ++ List.replicate (m - 1) 0 := by
  obtain ⟨m, rfl⟩ : ∃ j, m = j + 1 := ⟨m - 1, by omega⟩
  rw [List.set_append_right _ _ (by rw [sched_length]; omega), sched_length, Nat.sub_self, List.replicate_succ, List.set_cons_zero, sched, h]
  simp
theorem sched_get (b : List UInt8) (k m i : Nat) (h : i < k) : (sched b k ++ List.replicate m 0)[i]?.getD 0 = (sched b k)[i]?.getD 0 := by
  rw [List.getElem?_append_left (by rw [sched_length]; exact h)]
theorem addTo_length (s t : List UInt32) (n : Nat) : (addTo s t n).length = s.length := by
  induction n with
  | zero => rfl
  | succ n ih => simp [addTo, ih]
theorem compress_length (s : List UInt32) (b : List UInt8) : (compress s b).length = s.length := addTo_length _ _ _
theorem rnds_list_length (t : St) : t.list.length = 8 := rfl
end Go.Proofs.YtgflelodpcgmbaaGreatDoor.Sha
/- Plain Lean: how the model's integers of the kinds u32, u8 and u64 read as Lean's own words. -/
namespace Go.Proofs.YtgflelodpcgmbaaGreatDoor.Words
open Go Go.Proofs.YtgflelodpcgmbaaGreatDoor

theorem u32_lt (x : UInt32) : x.toNat < 4294967296 := x.toNat_lt
theorem u8_lt (x : UInt8) : x.toNat < 256 := x.toNat_lt

theorem u32_xor (x y : UInt32) : bits .xor .u32 (x.toNat : Int) (y.toNat : Int) = ((x ^^^ y).toNat : Int) := by
  rw [u32_xor_nat _ _ (u32_lt x) (u32_lt y), UInt32.toNat_xor]
theorem u32_and (x y : UInt32) : bits .and .u32 (x.toNat : Int) (y.toNat : Int) = ((x &&& y).toNat : Int) := by
  rw [u32_and_nat _ _ (u32_lt x) (u32_lt y), UInt32.toNat_and]
theorem u32_or (x y : UInt32) : bits .or .u32 (x.toNat : Int) (y.toNat : Int) = ((x ||| y).toNat : Int) := by
  rw [u32_or_nat _ _ (u32_lt x) (u32_lt y), UInt32.toNat_or]
theorem u32_add (x y : UInt32) : IntKind.u32.wrap ((x.toNat : Int) + (y.toNat : Int)) = ((x + y).toNat : Int) := by
  rw [IntKind.wrap_u32', UInt32.toNat_add]; omega
theorem u32_add_mod (x y : UInt32) : ((x.toNat : Int) + (y.toNat : Int)) % 4294967296 = ((x + y).toNat : Int) := by
  rw [UInt32.toNat_add]; omega
theorem u32_not_sub (x : UInt32) : (4294967295 : Int) - (x.toNat : Int) = ((~~~x).toNat : Int) := by
  rw [UInt32.toNat_not]; have := u32_lt x; simp [UInt32.size]; omega
theorem u32_not (x : UInt32) : bits .xor .u32 4294967295 (x.toNat : Int) = ((~~~x).toNat : Int) := by
  have h : (4294967295 : Int) = ((4294967295 : UInt32).toNat : Int) := rfl
  rw [h, u32_xor]
  congr 2
theorem u32_shr (x : UInt32) (n : Nat) (h : n < 32) : (x.toNat : Int) / 2 ^ n = ((x >>> UInt32.ofNat n).toNat : Int) := by
  rw [UInt32.toNat_shiftRight, Nat.shiftRight_eq_div_pow]
  have h1 : (UInt32.ofNat n).toNat % 32 = n := by rw [UInt32.toNat_ofNat_of_lt' (by simp [UInt32.size]; omega)]; omega
  rw [h1]
  simp
theorem u32_shl (x : UInt32) (n : Nat) (h : n < 32) : (x.toNat : Int) * 2 ^ n % 4294967296 = ((x <<< UInt32.ofNat n).toNat : Int) := by
  rw [UInt32.toNat_shiftLeft, Nat.shiftLeft_eq]
  have h1 : (UInt32.ofNat n).toNat % 32 = n := by rw [UInt32.toNat_ofNat_of_lt' (by simp [UInt32.size]; omega)]; omega
  rw [h1]
  simp
theorem rot_right (x : UInt32) (n : Nat) (h1 : 1 ≤ n) (h2 : n ≤ 31) :
    bits .or .u32 ((x.toNat : Int) / 2 ^ n) ((x.toNat : Int) * 2 ^ (32 - n) % 4294967296) = ((Sha.rotr x n).toNat : Int) := by
  rw [u32_shr _ _ (by omega), u32_shl _ _ (by omega), u32_or]; rfl
theorem rot_left (x : UInt32) (n : Nat) (h1 : 1 ≤ n) (h2 : n ≤ 31) :
    bits .or .u32 ((x.toNat : Int) * 2 ^ (32 - n) % 4294967296) ((x.toNat : Int) / 2 ^ n) = ((Sha.rotr x n).toNat : Int) := by
  rw [u32_shr _ _ (by omega), u32_shl _ _ (by omega), u32_or, Sha.rotr, UInt32.or_comm]
theorem and31 (k : Int) (h1 : -31 ≤ k) (h2 : k ≤ -1) : bits .and .u64 (IntKind.u64.wrap k) 31 = 32 + k := by
  obtain ⟨n, hn⟩ := Int.eq_ofNat_of_zero_le (show 0 ≤ IntKind.u64.wrap k from wrap_u64_nonneg k)
  have hw : IntKind.u64.wrap k = 18446744073709551616 + k := by rw [IntKind.wrap_u64]; omega
  have h : (31 : Int) = ((31 : Nat) : Int) := rfl
  rw [hn, h, u64_and_nat _ _ (by omega) (by omega), nat_mask5]
  omega

/-- a word as the model's integer, closed to simp -/
def W (x : UInt32) : Int := (x.toNat : Int)
theorem W_nonneg (x : UInt32) : 0 ≤ W x := by unfold W; omega
theorem W_lt (x : UInt32) : W x < 4294967296 := by unfold W; have := u32_lt x; omega
theorem W_inj {x y : UInt32} (h : W x = W y) : x = y := by unfold W at h; exact UInt32.toNat_inj.1 (by omega)
theorem W_xor (x y : UInt32) : bits .xor .u32 (W x) (W y) = W (x ^^^ y) := u32_xor x y
theorem W_and (x y : UInt32) : bits .and .u32 (W x) (W y) = W (x &&& y) := u32_and x y
theorem W_or (x y : UInt32) : bits .or .u32 (W x) (W y) = W (x ||| y) := u32_or x y
theorem W_add (x y : UInt32) : IntKind.u32.wrap (W x + W y) = W (x + y) := u32_add x y
theorem W_not (x : UInt32) : bits .xor .u32 4294967295 (W x) = W (~~~x) := u32_not x
theorem W_max (x : UInt32) : bits .xor .u32 IntKind.u32.max (W x) = W (~~~x) := u32_not x
theorem W_mod2 (a b : UInt32) : (W a + W b) % 4294967296 = W (a + b) := u32_add_mod a b
theorem W_mod3 (a b c : UInt32) : (W a + W b + W c) % 4294967296 = W (a + b + c) := by rw [← W_mod2, ← W_mod2]; omega
theorem W_mod4 (a b c d : UInt32) : (W a + W b + W c + W d) % 4294967296 = W (a + b + c + d) := by rw [← W_mod2, ← W_mod3]; omega
theorem W_mod5 (a b c d e : UInt32) : (W a + W b + W c + W d + W e) % 4294967296 = W (a + b + c + d + e) := by rw [← W_mod2, ← W_mod4]; omega
theorem W_not_sub (x : UInt32) : IntKind.u32.wrap (4294967295 - W x) = W (~~~x) := by
  have h := W_lt x; have h0 := W_nonneg x
  rw [IntKind.wrap_u32', Int.emod_eq_of_lt (by omega) (by omega)]; exact u32_not_sub x
theorem W_not_mod (x : UInt32) : (4294967295 - W x) % 4294967296 = W (~~~x) := by have h := W_not_sub x; rwa [IntKind.wrap_u32'] at h
theorem W_mod1 (x : UInt32) : W x % 4294967296 = W x := Int.emod_eq_of_lt (W_nonneg x) (W_lt x)
theorem W_byte (x : UInt8) : IntKind.u32.wrap (x.toNat : Int) = W x.toUInt32 := by
  have := u8_lt x
  rw [IntKind.wrap_u32', W, UInt8.toNat_toUInt32]; omega
theorem W_shl24 (x : UInt32) : IntKind.u32.wrap (W x * 16777216) = W (x <<< 24) := by rw [IntKind.wrap_u32']; exact u32_shl x 24 (by decide)
theorem W_shl16 (x : UInt32) : IntKind.u32.wrap (W x * 65536) = W (x <<< 16) := by rw [IntKind.wrap_u32']; exact u32_shl x 16 (by decide)
theorem W_shl8 (x : UInt32) : IntKind.u32.wrap (W x * 256) = W (x <<< 8) := by rw [IntKind.wrap_u32']; exact u32_shl x 8 (by decide)
theorem W_shr3 (x : UInt32) : W x / (8 : Int) = W (x >>> 3) := u32_shr x 3 (by decide)
theorem W_shr10 (x : UInt32) : W x / (1024 : Int) = W (x >>> 10) := u32_shr x 10 (by decide)

theorem join_bytes (x y z t : UInt8) : x.toUInt32 <<< 24 + y.toUInt32 <<< 16 + z.toUInt32 <<< 8 + t.toUInt32 = x.toUInt32 <<< 24 ||| y.toUInt32 <<< 16 ||| z.toUInt32 <<< 8 ||| t.toUInt32 := by
  have hx := u8_lt x; have hy := u8_lt y; have hz := u8_lt z; have ht := u8_lt t
  have e1 : (x.toUInt32 <<< 24).toNat = x.toNat * 2 ^ 24 := by
    rw [UInt32.toNat_shiftLeft, Nat.shiftLeft_eq, UInt8.toNat_toUInt32, show (24 : UInt32).toNat % 32 = 24 from rfl]; omega
  have e2 : (y.toUInt32 <<< 16).toNat = y.toNat * 2 ^ 16 := by
    rw [UInt32.toNat_shiftLeft, Nat.shiftLeft_eq, UInt8.toNat_toUInt32, show (16 : UInt32).toNat % 32 = 16 from rfl]; omega
  have e3 : (z.toUInt32 <<< 8).toNat = z.toNat * 2 ^ 8 := by
    rw [UInt32.toNat_shiftLeft, Nat.shiftLeft_eq, UInt8.toNat_toUInt32, show (8 : UInt32).toNat % 32 = 8 from rfl]; omega
  apply UInt32.toNat_inj.1
  rw [UInt32.toNat_or, UInt32.toNat_or, UInt32.toNat_or, UInt32.toNat_add, UInt32.toNat_add, UInt32.toNat_add, e1, e2, e3, UInt8.toNat_toUInt32]
  rw [nat_join 24 (x.toNat * 2 ^ 24) (y.toNat * 2 ^ 16) (by omega) (by omega), nat_join 16 (x.toNat * 2 ^ 24 + y.toNat * 2 ^ 16) (z.toNat * 2 ^ 8) (by omega) (by omega),
    nat_join 8 (x.toNat * 2 ^ 24 + y.toNat * 2 ^ 16 + z.toNat * 2 ^ 8) t.toNat (by omega) (by omega)]
  omega

theorem u8_of_shift (m s : Nat) : IntKind.u8.wrap ((m : Int) / 2 ^ s) = ((UInt8.ofNat (m >>> s)).toNat : Int) := by
  rw [IntKind.wrap_u8', Nat.shiftRight_eq_div_pow]; simp [UInt8.toNat_ofNat']

theorem W_out (x : UInt32) (s : Nat) (h : s < 32) : IntKind.u8.wrap (W x / 2 ^ s) = (((x >>> UInt32.ofNat s).toUInt8).toNat : Int) := by
  unfold W
  rw [u32_shr x s h, IntKind.wrap_u8', UInt32.toNat_toUInt8]; omega

theorem u8_xor (x y : UInt8) : bits .xor .u8 (x.toNat : Int) (y.toNat : Int) = ((x ^^^ y).toNat : Int) := by
  rw [u8_xor_nat _ _ (u8_lt x) (u8_lt y), UInt8.toNat_xor]

end Go.Proofs.YtgflelodpcgmbaaGreatDoor.Words
