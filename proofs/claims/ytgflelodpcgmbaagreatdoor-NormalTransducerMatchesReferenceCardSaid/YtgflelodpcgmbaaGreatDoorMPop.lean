/- The bits of a word: what OnesCount64 computes is their number. -/
import Derived.Test.YtgflelodpcgmbaaGreatDoorMWord64
import Derived.Test.YtgflelodpcgmbaaGreatDoorMNWrite
namespace Go.Proofs.YtgflelodpcgmbaaGreatDoor.Pop
set_option maxRecDepth 100000
theorem land_cat (q m b c : Nat) (hb : b < 256) (hc : c < 256) : (256 * q + b) &&& (256 * m + c) = 256 * (q &&& m) + (b &&& c) := by
  have h1 : ∀ q b, b < 256 → 256 * q + b = q <<< 8 ||| b := fun q b hb => by
    rw [← Nat.shiftLeft_add_eq_or_of_lt (show b < 2 ^ 8 from hb), Nat.shiftLeft_eq]; omega
  have hbc : b &&& c < 256 := Nat.lt_of_le_of_lt Nat.and_le_left hb
  rw [h1 q b hb, h1 m c hc, h1 (q &&& m) (b &&& c) hbc]
  apply Nat.eq_of_testBit_eq
  intro i
  simp only [Nat.testBit_and, Nat.testBit_or, Nat.testBit_shiftLeft]
  by_cases h : i < 8
  · have : decide (i ≥ 8) = false := by simpa using h
    simp [this]
  · have e1 : b.testBit i = false := Nat.testBit_lt_two_pow (Nat.lt_of_lt_of_le hb (show 2 ^ 8 ≤ 2 ^ i from Nat.pow_le_pow_right (by omega) (by omega)))
    have e2 : c.testBit i = false := Nat.testBit_lt_two_pow (Nat.lt_of_lt_of_le hc (show 2 ^ 8 ≤ 2 ^ i from Nat.pow_le_pow_right (by omega) (by omega)))
    have e3 : decide (i ≥ 8) = true := by simp; omega
    simp [e1, e2, e3]

def s1 (b : Nat) : Nat := (b / 2 &&& 85) + (b &&& 85)
def s2 (b : Nat) : Nat := (b / 4 &&& 51) + (b &&& 51)
def s3 (b : Nat) : Nat := (b / 16 + b) &&& 15
def S1 (m x : Nat) : Nat := (x / 2 &&& m) + (x &&& m)
def S2 (m x : Nat) : Nat := (x / 4 &&& m) + (x &&& m)
def S3 (m x : Nat) : Nat := (x / 16 + x) &&& m
theorem s1_b : ∀ b : Fin 256, ∀ t : Fin 2, (128 * t.1 + b.1 / 2) &&& 85 = b.1 / 2 &&& 85 := by decide +kernel
theorem s2_b : ∀ b : Fin 256, ∀ t : Fin 4, (64 * t.1 + b.1 / 4) &&& 51 = b.1 / 4 &&& 51 := by decide +kernel
theorem s1_n (b t : Nat) (hb : b < 256) (ht : t < 2) : (128 * t + b / 2) &&& 85 = b / 2 &&& 85 := s1_b ⟨b, hb⟩ ⟨t, ht⟩
theorem s2_n (b t : Nat) (hb : b < 256) (ht : t < 4) : (64 * t + b / 4) &&& 51 = b / 4 &&& 51 := s2_b ⟨b, hb⟩ ⟨t, ht⟩
theorem S1_cat (m q b : Nat) (hb : b < 256) : S1 (256 * m + 85) (256 * q + b) = 256 * S1 m q + s1 b := by
  unfold S1 s1
  rw [show (256 * q + b) / 2 = 256 * (q / 2) + (128 * (q % 2) + b / 2) by omega, land_cat _ _ _ _ (by omega) (by omega), land_cat _ _ _ _ hb (by omega), s1_n b (q % 2) hb (by omega)]
  omega
theorem S2_cat (m q b : Nat) (hb : b < 256) : S2 (256 * m + 51) (256 * q + b) = 256 * S2 m q + s2 b := by
  unfold S2 s2
  rw [show (256 * q + b) / 4 = 256 * (q / 4) + (64 * (q % 4) + b / 4) by omega, land_cat _ _ _ _ (by omega) (by omega), land_cat _ _ _ _ hb (by omega), s2_n b (q % 4) hb (by omega)]
  omega
theorem s3_b : ∀ b : Fin 69, ∀ t : Fin 5, b.1 % 16 ≤ 4 → (16 * t.1 + b.1 / 16 + b.1) &&& 15 = (b.1 / 16 + b.1) &&& 15 ∧ 16 * t.1 + b.1 / 16 + b.1 < 256 := by decide +kernel
theorem S3_cat (m q b : Nat) (hb : b < 69) (hb2 : b % 16 ≤ 4) (hq : q % 16 ≤ 4) : S3 (256 * m + 15) (256 * q + b) = 256 * S3 m q + s3 b := by
  unfold S3 s3
  obtain ⟨h1, h2⟩ := s3_b ⟨b, hb⟩ ⟨q % 16, by omega⟩ hb2
  simp only at h1 h2
  rw [show (256 * q + b) / 16 + (256 * q + b) = 256 * (q / 16 + q) + (16 * (q % 16) + b / 16 + b) by omega, land_cat _ _ _ _ h2 (by omega), h1]
/-- the bits of a byte -/
def bc (b : Nat) : Nat := ((List.range 8).countP fun i => b.testBit i)
theorem byte : ∀ b : Fin 256, s3 (s2 (s1 b.1)) = bc b.1 ∧ s2 (s1 b.1) < 69 ∧ s2 (s1 b.1) % 16 ≤ 4 ∧ s1 b.1 < 256 ∧ bc b.1 ≤ 8 := by decide +kernel
def cat : List Nat → Nat
  | [] => 0
  | b :: l => 256 * cat l + b
def rep (c : Nat) : Nat → Nat
  | 0 => 0
  | n + 1 => 256 * rep c n + c
theorem S1_all (l : List Nat) (h : ∀ b ∈ l, b < 256) : S1 (rep 85 l.length) (cat l) = cat (l.map s1) := by
  induction l with
  | nil => decide
  | cons b l ih => rw [List.length_cons, rep, cat, S1_cat _ _ _ (h b (by simp)), ih (fun c hc => h c (by simp [hc]))]; rfl
theorem S2_all (l : List Nat) (h : ∀ b ∈ l, b < 256) : S2 (rep 51 l.length) (cat l) = cat (l.map s2) := by
  induction l with
  | nil => decide
  | cons b l ih => rw [List.length_cons, rep, cat, S2_cat _ _ _ (h b (by simp)), ih (fun c hc => h c (by simp [hc]))]; rfl
theorem cat_mod (l : List Nat) (h : ∀ b ∈ l, b < 69 ∧ b % 16 ≤ 4) : cat l % 16 ≤ 4 := by
  cases l with
  | nil => decide
  | cons b l => have := (h b (by simp)).2; rw [cat]; omega
theorem S3_all (l : List Nat) (h : ∀ b ∈ l, b < 69 ∧ b % 16 ≤ 4) : S3 (rep 15 l.length) (cat l) = cat (l.map s3) := by
  induction l with
  | nil => decide
  | cons b l ih =>
    have h2 : ∀ c ∈ l, c < 69 ∧ c % 16 ≤ 4 := fun c hc => h c (by simp [hc])
    rw [List.length_cons, rep, cat, S3_cat _ _ _ (h b (by simp)).1 (h b (by simp)).2 (cat_mod l h2), ih h2]; rfl
theorem cat_div (b : Nat) (l : List Nat) (hb : b < 256) : cat (b :: l) / 256 = cat l := by rw [cat]; omega
theorem div2 (x : Nat) : x / 65536 = x / 256 / 256 := by rw [Nat.div_div_eq_div_mul]
theorem div4 (x : Nat) : x / 4294967296 = x / 256 / 256 / 256 / 256 := by rw [Nat.div_div_eq_div_mul, Nat.div_div_eq_div_mul, Nat.div_div_eq_div_mul]
theorem fin8 (p0 p1 p2 p3 p4 p5 p6 p7 : Nat) (h0 : p0 ≤ 8) (h1 : p1 ≤ 8) (h2 : p2 ≤ 8) (h3 : p3 ≤ 8) (h4 : p4 ≤ 8) (h5 : p5 ≤ 8) (h6 : p6 ≤ 8) (h7 : p7 ≤ 8) (x y z u : Nat)
    (hx : x = cat [p0, p1, p2, p3, p4, p5, p6, p7]) (hy : y = x + x / 256) (hz : z = y + y / 65536) (hu : u = z + z / 4294967296) :
    y < 2 ^ 64 ∧ z < 2 ^ 64 ∧ u < 2 ^ 64 ∧ u % 128 = p0 + p1 + p2 + p3 + p4 + p5 + p6 + p7 := by
  have hy' : y = cat [p0 + p1, p1 + p2, p2 + p3, p3 + p4, p4 + p5, p5 + p6, p6 + p7, p7] := by
    rw [hy, hx, cat_div _ _ (by omega)]; simp only [cat]; omega
  have hz' : z = cat [p0 + p1 + p2 + p3, p1 + p2 + p3 + p4, p2 + p3 + p4 + p5, p3 + p4 + p5 + p6, p4 + p5 + p6 + p7, p5 + p6 + p7, p6 + p7, p7] := by
    rw [hz, div2, hy', cat_div _ _ (by omega), cat_div _ _ (by omega)]; simp only [cat]; omega
  have hu' : u = 256 * cat [p1 + p2 + p3 + p4 + p5 + p6 + p7, p2 + p3 + p4 + p5 + p6 + p7, p3 + p4 + p5 + p6 + p7, p4 + p5 + p6 + p7, p5 + p6 + p7, p6 + p7, p7] + (p0 + p1 + p2 + p3 + p4 + p5 + p6 + p7) := by
    rw [hu, div4, hz', cat_div _ _ (by omega), cat_div _ _ (by omega), cat_div _ _ (by omega), cat_div _ _ (by omega)]; simp only [cat]; omega
  clear hx hy hz hu
  refine ⟨by rw [hy']; simp only [cat]; omega, by rw [hz']; simp only [cat]; omega, by rw [hu']; simp only [cat]; omega, ?_⟩
  rw [hu']
  generalize cat _ = C
  omega

def bytes8 (x : Nat) : List Nat := [x % 256, x / 256 % 256, x / 65536 % 256, x / 16777216 % 256, x / 4294967296 % 256, x / 1099511627776 % 256, x / 281474976710656 % 256, x / 72057594037927936 % 256]
theorem cat_step (x : Nat) (l : List Nat) (h : x / 256 = cat l) : x = cat (x % 256 :: l) := by rw [cat, ← h]; omega
theorem cat_bytes8 (x : Nat) (h : x < 18446744073709551616) : x = cat (bytes8 x) := by
  have e : ∀ a b : Nat, x / a / b = x / (a * b) := fun a b => Nat.div_div_eq_div_mul x a b
  refine cat_step _ _ ?_
  rw [show x / 65536 = x / 256 / 256 from (e 256 256).symm, show x / 16777216 = x / 256 / 256 / 256 by rw [e, e], show x / 4294967296 = x / 256 / 256 / 256 / 256 by rw [e, e, e], show x / 1099511627776 = x / 256 / 256 / 256 / 256 / 256 by rw [e, e, e, e],
    show x / 281474976710656 = x / 256 / 256 / 256 / 256 / 256 / 256 by rw [e, e, e, e, e], show x / 72057594037927936 = x / 256 / 256 / 256 / 256 / 256 / 256 / 256 by rw [e, e, e, e, e, e]]
  refine cat_step _ _ (cat_step _ _ (cat_step _ _ (cat_step _ _ (cat_step _ _ (cat_step _ _ (cat_step _ _ ?_))))))
  simp only [cat]
  rw [e, e, e, e, e, e, e]
  omega
theorem bytes8_lt (x : Nat) : ∀ b ∈ bytes8 x, b < 256 := by
  intro b hb
  simp only [bytes8, List.mem_cons, List.not_mem_nil, or_false] at hb
  omega
theorem cat_lt (l : List Nat) (h : ∀ b ∈ l, b < 256) : cat l < 256 ^ l.length := by
  induction l with
  | nil => decide
  | cons b l ih =>
    have h1 := ih (fun c hc => h c (by simp [hc]))
    have h2 := h b (by simp)
    rw [cat, List.length_cons, Nat.pow_succ]
    omega
theorem cnt_cat (q b n : Nat) (hb : b < 256) : (List.range (8 + n)).countP (fun i => (256 * q + b).testBit i) = bc b + (List.range n).countP (fun i => q.testBit i) := by
  have e : 256 * q + b = 2 ^ 8 * q + b := by omega
  rw [List.range_add, List.countP_append, List.countP_map]
  congr 1
  · unfold bc
    apply List.countP_congr
    intro i hi
    have hi8 : i < 8 := List.mem_range.1 hi
    rw [e, Nat.testBit_two_pow_mul_add _ (show b < 2 ^ 8 from hb), if_pos hi8]
  · apply List.countP_congr
    intro i _
    show (256 * q + b).testBit (8 + i) = true ↔ _
    rw [e, Nat.testBit_two_pow_mul_add _ (show b < 2 ^ 8 from hb), if_neg (by omega), show 8 + i - 8 = i by omega]
theorem cnt_all (l : List Nat) (h : ∀ b ∈ l, b < 256) : (List.range (8 * l.length)).countP (fun i => (cat l).testBit i) = (l.map bc).sum := by
  induction l with
  | nil => rfl
  | cons b l ih =>
    rw [List.length_cons, show 8 * (l.length + 1) = 8 + 8 * l.length by omega, cat, cnt_cat _ _ _ (h b (by simp)), ih (fun c hc => h c (by simp [hc]))]
    rfl
theorem shr_nat (x k : UInt64) (n : Nat) (h : k.toNat % 64 = n) : (x >>> k).toNat = x.toNat / 2 ^ n := by rw [UInt64.toNat_shiftRight, Nat.shiftRight_eq_div_pow, h]
theorem add_nat (x y : UInt64) (h : x.toNat + y.toNat < 2 ^ 64) : (x + y).toNat = x.toNat + y.toNat := by rw [UInt64.toNat_add, Nat.mod_eq_of_lt h]
theorem oc64_bytes (x : UInt64) : (oc64 x).toNat = ((bytes8 x.toNat).map bc).sum := by
  have hx : x.toNat < 18446744073709551616 := x.toNat_lt
  have hl := bytes8_lt x.toNat
  have hc := cat_bytes8 x.toNat hx
  have hn : (bytes8 x.toNat).length = 8 := rfl
  generalize bytes8 x.toNat = l at *
  have hb : ∀ b ∈ l, s3 (s2 (s1 b)) = bc b ∧ (s2 (s1 b) < 69 ∧ s2 (s1 b) % 16 ≤ 4) ∧ s1 b < 256 ∧ bc b ≤ 8 := fun b h => by
    have := byte ⟨b, hl b h⟩
    exact ⟨this.1, ⟨this.2.1, this.2.2.1⟩, this.2.2.2.1, this.2.2.2.2⟩
  have l1 : ∀ c ∈ l.map s1, c < 256 := fun c h => by obtain ⟨b, h1, rfl⟩ := List.mem_map.1 h; exact (hb b h1).2.2.1
  have l2 : ∀ c ∈ (l.map s1).map s2, c < 69 ∧ c % 16 ≤ 4 := fun c h => by
    rw [List.map_map] at h
    obtain ⟨b, h1, rfl⟩ := List.mem_map.1 h; exact (hb b h1).2.1
  have l3 : ((l.map s1).map s2).map s3 = l.map bc := by
    rw [List.map_map, List.map_map]
    exact List.map_congr_left fun b h => (hb b h).1
  have e1 := S1_all l hl
  have e2 := S2_all (l.map s1) l1
  have e3 := S3_all ((l.map s1).map s2) l2
  rw [l3] at e3
  have b1 := cat_lt (l.map s1) l1
  have b2 := cat_lt ((l.map s1).map s2) (fun c h => by have := (l2 c h).1; omega)
  simp only [List.length_map, hn] at e1 e2 e3 b1 b2
  rw [← hc] at e1
  -- the steps
  have y1 : ((x >>> 1 &&& 6148914691236517205) + (x &&& 6148914691236517205)).toNat = cat (l.map s1) := by
    have h : (x >>> 1 &&& 6148914691236517205).toNat + (x &&& 6148914691236517205).toNat = cat (l.map s1) := by
      rw [UInt64.toNat_and, UInt64.toNat_and, shr_nat x 1 1 rfl]; exact e1
    rw [add_nat _ _ (by rw [h]; exact b1), h]
  unfold oc64
  simp only
  generalize (x >>> 1 &&& 6148914691236517205) + (x &&& 6148914691236517205) = x1 at *
  have y2 : ((x1 >>> 2 &&& 3689348814741910323) + (x1 &&& 3689348814741910323)).toNat = cat ((l.map s1).map s2) := by
    have h : (x1 >>> 2 &&& 3689348814741910323).toNat + (x1 &&& 3689348814741910323).toNat = cat ((l.map s1).map s2) := by
      rw [UInt64.toNat_and, UInt64.toNat_and, shr_nat x1 2 2 rfl, y1]; exact e2
    rw [add_nat _ _ (by rw [h]; exact b2), h]
  generalize (x1 >>> 2 &&& 3689348814741910323) + (x1 &&& 3689348814741910323) = x2 at *
  have b2' : cat ((l.map s1).map s2) < 1152921504606846976 * 5 := by
    match l, hn with
    | [a0, a1, a2, a3, a4, a5, a6, a7], _ =>
      have h : ∀ a ∈ [a0, a1, a2, a3, a4, a5, a6, a7], s2 (s1 a) < 69 := fun a h => (hb a h).2.1.1
      have g0 := h a0 (by simp); have g1 := h a1 (by simp); have g2 := h a2 (by simp); have g3 := h a3 (by simp); have g4 := h a4 (by simp); have g5 := h a5 (by simp); have g6 := h a6 (by simp); have g7 := h a7 (by simp)
      simp only [List.map_cons, List.map_nil, cat]
      omega
  have y3 : ((x2 >>> 4 + x2) &&& 1085102592571150095).toNat = cat (l.map bc) := by
    rw [UInt64.toNat_and, add_nat _ _ (by rw [shr_nat x2 4 4 rfl, y2]; omega), shr_nat x2 4 4 rfl, y2]; exact e3
  generalize (x2 >>> 4 + x2) &&& 1085102592571150095 = x3 at *
  match l, hn with
  | [a0, a1, a2, a3, a4, a5, a6, a7], _ =>
    have h : ∀ a ∈ [a0, a1, a2, a3, a4, a5, a6, a7], bc a ≤ 8 := fun a h => (hb a h).2.2.2
    have hf := fin8 (bc a0) (bc a1) (bc a2) (bc a3) (bc a4) (bc a5) (bc a6) (bc a7) (h _ (by simp)) (h _ (by simp)) (h _ (by simp)) (h _ (by simp)) (h _ (by simp)) (h _ (by simp)) (h _ (by simp)) (h _ (by simp)) x3.toNat _ _ _ y3 rfl rfl rfl
    obtain ⟨f1, f2, f3, f4⟩ := hf
    have z1 : (x3 + x3 >>> 8).toNat = x3.toNat + x3.toNat / 256 := by rw [add_nat _ _ (by rw [shr_nat x3 8 8 rfl]; exact f1), shr_nat x3 8 8 rfl]
    rw [← z1] at f2 f3 f4
    generalize x3 + x3 >>> 8 = x4 at *
    have z2 : (x4 + x4 >>> 16).toNat = x4.toNat + x4.toNat / 65536 := by rw [add_nat _ _ (by rw [shr_nat x4 16 16 rfl]; exact f2), shr_nat x4 16 16 rfl]
    rw [← z2] at f3 f4
    generalize x4 + x4 >>> 16 = x5 at *
    have z3 : (x5 + x5 >>> 32).toNat = x5.toNat + x5.toNat / 4294967296 := by rw [add_nat _ _ (by rw [shr_nat x5 32 32 rfl]; exact f3), shr_nat x5 32 32 rfl]
    rw [← z3] at f4
    generalize x5 + x5 >>> 32 = x6 at *
    rw [UInt64.toNat_and, show (127 : UInt64).toNat = 2 ^ 7 - 1 from rfl, Nat.and_two_pow_sub_one_eq_mod, show (2 : Nat) ^ 7 = 128 from rfl, f4]
    simp only [List.map_cons, List.map_nil, List.sum_cons, List.sum_nil]
    omega
theorem oc64_count (x : UInt64) : (oc64 x).toNat = (List.range 64).countP fun i => x.toNat.testBit i := by
  have hx : x.toNat < 18446744073709551616 := x.toNat_lt
  have h := cnt_all (bytes8 x.toNat) (bytes8_lt x.toNat)
  rw [← cat_bytes8 x.toNat hx] at h
  rw [oc64_bytes, ← h]
  rfl
end Go.Proofs.YtgflelodpcgmbaaGreatDoor.Pop
/- Classes of bytes as sets, in plain Lean. -/
namespace Go.Proofs.YtgflelodpcgmbaaGreatDoor
open Go Go.RowKit Mem
set_option maxRecDepth 100000

/-- the number i is a member -/
def Cl.mem (c : Cl) (i : Nat) : Bool := (c.w (i / 64)).toNat.testBit (i % 64)
theorem pow_nat (r : Nat) (h : r < 64) : ((1 : UInt64) <<< UInt64.ofNat r).toNat = 2 ^ r := by
  rw [UInt64.toNat_shiftLeft, Nat.shiftLeft_eq]
  have h1 : (UInt64.ofNat r).toNat % 64 = r := by rw [UInt64.toNat_ofNat_of_lt' (by simp [UInt64.size]; omega)]; omega
  rw [h1, show (1 : UInt64).toNat = 1 from rfl, Nat.one_mul]
  exact Nat.mod_eq_of_lt (Nat.pow_lt_pow_right (by omega) h)
theorem u64_bit (x : UInt64) (r : Nat) (h : r < 64) : (x &&& ((1 : UInt64) <<< UInt64.ofNat r) != 0) = x.toNat.testBit r := by
  have e : (x &&& ((1 : UInt64) <<< UInt64.ofNat r)).toNat = x.toNat &&& 2 ^ r := by rw [UInt64.toNat_and, pow_nat r h]
  have hbit : ∀ i, (x.toNat &&& 2 ^ r).testBit i = (x.toNat.testBit i && decide (r = i)) := fun i => by rw [Nat.testBit_and, Nat.testBit_two_pow]
  cases hb : x.toNat.testBit r with
  | true =>
    rw [bne_iff_ne]
    intro h0
    rw [h0] at e
    have h1 := hbit r
    rw [← e, hb] at h1
    simp at h1
  | false =>
    have h0 : x &&& ((1 : UInt64) <<< UInt64.ofNat r) = 0 := UInt64.toNat_inj.1 (by
      rw [e]
      apply Nat.eq_of_testBit_eq
      intro i
      rw [hbit]
      by_cases hi : r = i
      · subst hi; rw [hb]; simp
      · simp [hi])
    rw [h0]; rfl
theorem has_mem (c : Cl) (b : UInt8) : c.has b = c.mem b.toNat := u64_bit _ _ (Nat.mod_lt _ (by omega))
theorem u64_ext (x y : UInt64) (h : ∀ i, i < 64 → x.toNat.testBit i = y.toNat.testBit i) : x = y := by
  apply UInt64.toNat_inj.1
  apply Nat.eq_of_testBit_eq
  intro i
  rcases Nat.lt_or_ge i 64 with hi | hi
  · exact h i hi
  · have hp : 2 ^ 64 ≤ 2 ^ i := Nat.pow_le_pow_right (by omega) hi
    rw [Nat.testBit_lt_two_pow (Nat.lt_of_lt_of_le x.toNat_lt hp), Nat.testBit_lt_two_pow (Nat.lt_of_lt_of_le y.toNat_lt hp)]
theorem Cl.mem_at (c : Cl) (q i : Nat) (hi : i < 64) : c.mem (64 * q + i) = (c.w q).toNat.testBit i := by
  unfold Cl.mem
  rw [show (64 * q + i) / 64 = q by omega, show (64 * q + i) % 64 = i by omega]
theorem Cl.ext_mem (c d : Cl) (h : ∀ i, i < 256 → c.mem i = d.mem i) : c = d := by
  have hw : ∀ q, q < 4 → c.w q = d.w q := fun q hq => u64_ext _ _ fun i hi => by
    rw [← c.mem_at q i hi, ← d.mem_at q i hi]; exact h _ (by omega)
  have h0 := hw 0 (by omega); have h1 := hw 1 (by omega); have h2 := hw 2 (by omega); have h3 := hw 3 (by omega)
  cases c; cases d
  simp only [Cl.w] at h0 h1 h2 h3
  subst h0; subst h1; subst h2; subst h3
  rfl
def Cl.setW (c : Cl) (q : Nat) (x : UInt64) : Cl := match q with | 0 => { c with a := x } | 1 => { c with b := x } | 2 => { c with c := x } | _ => { c with d := x }
theorem Cl.setW_w (c : Cl) (q p : Nat) (x : UInt64) (hq : q < 4) (hp : p < 4) : (c.setW q x).w p = if p = q then x else c.w p := by
  rcases (by omega : q = 0 ∨ q = 1 ∨ q = 2 ∨ q = 3) with rfl | rfl | rfl | rfl <;> rcases (by omega : p = 0 ∨ p = 1 ∨ p = 2 ∨ p = 3) with rfl | rfl | rfl | rfl <;> rfl
/-- with the member b -/
def Cl.add (c : Cl) (b : Nat) : Cl := c.setW (b / 64) (c.w (b / 64) ||| ((1 : UInt64) <<< UInt64.ofNat (b % 64)))
theorem Cl.add_mem (c : Cl) (b i : Nat) (hb : b < 256) (hi : i < 256) : (c.add b).mem i = (c.mem i || decide (i = b)) := by
  unfold Cl.add Cl.mem
  rw [Cl.setW_w _ _ _ _ (by omega) (by omega)]
  by_cases h : i / 64 = b / 64
  · rw [if_pos h, UInt64.toNat_or, pow_nat _ (Nat.mod_lt _ (by omega)), Nat.testBit_or, Nat.testBit_two_pow, h]
    congr 1
    by_cases h2 : i = b
    · subst h2; simp
    · rw [decide_eq_false h2, decide_eq_false (by omega)]
  · rw [if_neg h, decide_eq_false (by intro e; subst e; exact h rfl), Bool.or_false]
abbrev zeroC : Cl := ⟨0, 0, 0, 0⟩
theorem zero_mem (i : Nat) : zeroC.mem i = false := by
  unfold Cl.mem
  have : ∀ q, zeroC.w q = 0 := fun q => by unfold Cl.w; split <;> rfl
  rw [this]
  exact Nat.zero_testBit _
/-- the numbers below n that p allows -/
def fillC (p : Nat → Bool) (n : Nat) : Cl := (List.range n).foldl (fun c i => if p i = true then c.add i else c) zeroC
theorem fillC_succ (p : Nat → Bool) (n : Nat) : fillC p (n + 1) = if p n = true then (fillC p n).add n else fillC p n := by
  unfold fillC; rw [List.range_succ, List.foldl_append]; rfl
theorem fillC_mem (p : Nat → Bool) (n : Nat) (hn : n ≤ 256) (i : Nat) (hi : i < 256) : (fillC p n).mem i = (decide (i < n) && p i) := by
  induction n with
  | zero => rw [show fillC p 0 = zeroC from rfl, zero_mem]; simp
  | succ n ih =>
    have ih := ih (by omega)
    rw [fillC_succ]
    by_cases hp : p n = true
    · rw [if_pos hp, Cl.add_mem _ _ _ (by omega) hi, ih]
      by_cases h : i = n
      · subst h; simp [hp]
      · have : decide (i < n + 1) = decide (i < n) := decide_eq_decide.2 (by omega)
        rw [this]; simp [h]
    · rw [if_neg hp, ih]
      by_cases h : i = n
      · subst h; simp [hp]
      · have : decide (i < n + 1) = decide (i < n) := decide_eq_decide.2 (by omega)
        rw [this]
def Cl.inter (a b : Cl) : Cl := ⟨a.a &&& b.a, a.b &&& b.b, a.c &&& b.c, a.d &&& b.d⟩
theorem union_mem (a b : Cl) (i : Nat) : (a.union b).mem i = (a.mem i || b.mem i) := by
  unfold Cl.mem
  have : (a.union b).w (i / 64) = a.w (i / 64) ||| b.w (i / 64) := by unfold Cl.w; split <;> rfl
  rw [this, UInt64.toNat_or, Nat.testBit_or]
theorem inter_mem (a b : Cl) (i : Nat) : (a.inter b).mem i = (a.mem i && b.mem i) := by
  unfold Cl.mem
  have : (a.inter b).w (i / 64) = a.w (i / 64) &&& b.w (i / 64) := by unfold Cl.w; split <;> rfl
  rw [this, UInt64.toNat_and, Nat.testBit_and]
theorem fill_union (a b : Cl) : fillC (fun i => a.mem i || b.mem i) 256 = a.union b := Cl.ext_mem _ _ fun i hi => by
  rw [fillC_mem _ _ (Nat.le_refl _) _ hi, union_mem, decide_eq_true hi, Bool.true_and]
theorem fill_inter (a b : Cl) : fillC (fun i => a.mem i && b.mem i) 256 = a.inter b := Cl.ext_mem _ _ fun i hi => by
  rw [fillC_mem _ _ (Nat.le_refl _) _ hi, inter_mem, decide_eq_true hi, Bool.true_and]
theorem count_shift (f : Nat → Bool) (m n : Nat) : (List.range (m + n)).countP f = (List.range m).countP f + (List.range n).countP fun i => f (m + i) := by
  rw [List.range_add, List.countP_append, List.countP_map]; rfl
theorem size_count (c : Cl) : c.size = ((List.range 256).countP c.mem : Nat) := by
  have hx : ∀ x : UInt64, X (oc64 x) = ((List.range 64).countP fun i => x.toNat.testBit i : Nat) := fun x => by
    show ((oc64 x).toNat : Int) = _
    rw [Pop.oc64_count]
  have hq : ∀ q, (List.range 64).countP (fun i => c.mem (64 * q + i)) = (List.range 64).countP fun i => (c.w q).toNat.testBit i := fun q =>
    List.countP_congr fun i hi => by rw [c.mem_at q i (List.mem_range.1 hi)]
  unfold Cl.size
  rw [hx, hx, hx, hx, show 256 = 64 + (64 + (64 + 64)) from rfl, count_shift, count_shift, count_shift]
  have h0 := hq 0; have h1 := hq 1; have h2 := hq 2; have h3 := hq 3
  simp only [Nat.mul_zero, Nat.zero_add, Nat.mul_one] at h0 h1 h2 h3
  simp only [Cl.w] at h0 h1 h2 h3
  have e2 : (fun i => c.mem (64 + (64 + i))) = fun i => c.mem (64 * 2 + i) := by funext i; congr 1; omega
  have e3 : (fun i => c.mem (64 + (64 + (64 + i)))) = fun i => c.mem (64 * 3 + i) := by funext i; congr 1; omega
  rw [e2, e3, h1, h2, h3, h0]
  omega
theorem size_nonneg (c : Cl) : 0 ≤ c.size := by rw [size_count]; omega
theorem size_le (c : Cl) : c.size ≤ 256 := by
  rw [size_count]
  have := List.countP_le_length (p := c.mem) (l := List.range 256)
  rw [List.length_range] at this
  omega
theorem size_zero (c : Cl) : c.size = 0 ↔ ∀ i, i < 256 → c.mem i = false := by
  rw [size_count]
  constructor
  · intro h i hi
    have h0 : (List.range 256).countP c.mem = 0 := by omega
    have := List.countP_eq_zero.1 h0 i (List.mem_range.2 hi)
    simpa using this
  · intro h
    have : (List.range 256).countP c.mem = 0 := List.countP_eq_zero.2 fun i hi => by rw [h i (List.mem_range.1 hi)]; decide
    rw [this]; rfl
theorem size_full (c : Cl) : c.size = 256 ↔ ∀ i, i < 256 → c.mem i = true := by
  rw [size_count]
  have e : (List.range 256).countP c.mem = 256 ↔ ∀ i ∈ List.range 256, c.mem i = true := by
    have := List.countP_eq_length (p := c.mem) (l := List.range 256)
    rwa [List.length_range] at this
  constructor
  · intro h i hi
    exact e.1 (by omega) i (List.mem_range.2 hi)
  · intro h
    rw [e.2 fun i hi => h i (List.mem_range.1 hi)]; rfl
theorem count_or (f g : Nat → Bool) (l : List Nat) : l.countP (fun i => f i || g i) + l.countP (fun i => f i && g i) = l.countP f + l.countP g := by
  induction l with
  | nil => rfl
  | cons a l ih =>
    simp only [List.countP_cons]
    cases f a <;> cases g a <;> simp <;> omega
theorem size_union (a b : Cl) : (a.union b).size + (a.inter b).size = a.size + b.size := by
  rw [size_count, size_count, size_count, size_count]
  have h := count_or a.mem b.mem (List.range 256)
  have e1 : (List.range 256).countP (a.union b).mem = (List.range 256).countP fun i => a.mem i || b.mem i := List.countP_congr fun i _ => by rw [union_mem]
  have e2 : (List.range 256).countP (a.inter b).mem = (List.range 256).countP fun i => a.mem i && b.mem i := List.countP_congr fun i _ => by rw [inter_mem]
  rw [e1, e2]
  omega
theorem foldl_union_mem (l : List Cl) (i : Nat) : ∀ a : Cl, (l.foldl Cl.union a).mem i = (a.mem i || l.any fun c => c.mem i) := by
  induction l with
  | nil => intro a; simp
  | cons c l ih => intro a; rw [List.foldl_cons, ih, union_mem, List.any_cons, Bool.or_assoc]
/-- the sizes of the meets of each class with the union of those before it -/
def meetSum : Cl → List Cl → Int
  | _, [] => 0
  | a, c :: l => (a.inter c).size + meetSum (a.union c) l
theorem meetSum_nonneg (l : List Cl) : ∀ a, 0 ≤ meetSum a l := by
  induction l with
  | nil => intro a; exact Int.le_refl 0
  | cons c l ih => intro a; have := ih (a.union c); have := size_nonneg (a.inter c); unfold meetSum; omega
theorem meetSum_eq (l : List Cl) : ∀ a : Cl, (l.foldl Cl.union a).size + meetSum a l = a.size + szSum l := by
  induction l with
  | nil => intro a; show a.size + 0 = a.size + 0; rfl
  | cons c l ih =>
    intro a
    have h := ih (a.union c)
    have h2 := size_union a c
    rw [List.foldl_cons, meetSum, szSum, List.map_cons, List.sum_cons]
    unfold szSum at h
    omega
/-- a partition, as the reference tests it -/
def partB : Cl → List Cl → Bool
  | a, [] => decide (a.size = 256)
  | a, c :: l => decide (c.size ≠ 0) && (decide (¬ 0 < (a.inter c).size) && partB (a.union c) l)
theorem partB_iff (l : List Cl) : ∀ a : Cl, partB a l = true ↔ (∀ c ∈ l, c.size ≠ 0) ∧ meetSum a l = 0 ∧ (l.foldl Cl.union a).size = 256 := by
  induction l with
  | nil => intro a; simp [partB, meetSum]
  | cons c l ih =>
    intro a
    have h1 := size_nonneg (a.inter c)
    have h2 := meetSum_nonneg l (a.union c)
    unfold partB meetSum
    rw [Bool.and_eq_true, Bool.and_eq_true, ih, List.foldl_cons]
    simp only [decide_eq_true_eq, List.mem_cons, forall_eq_or_imp]
    constructor
    · rintro ⟨g1, g2, g3, g4, g5⟩
      exact ⟨⟨g1, g3⟩, by omega, g5⟩
    · rintro ⟨⟨g1, g3⟩, g4, g5⟩
      exact ⟨g1, by omega, g3, by omega, g5⟩
theorem partB_valid (l : List Cl) : partB zc l = true ↔ (∀ c ∈ l, c.size ≠ 0) ∧ szSum l = 256 ∧ (unAll l).size = 256 := by
  rw [partB_iff]
  have h := meetSum_eq l zc
  have hz : zc.size = 0 := by decide +kernel
  have hn := meetSum_nonneg l zc
  unfold unAll
  constructor
  · rintro ⟨g1, g2, g3⟩; exact ⟨g1, by omega, g3⟩
  · rintro ⟨g1, g2, g3⟩; exact ⟨g1, by omega, g3⟩
theorem valid_cov {N : NZ} (h : N.valid = true) : N.Cov := by
  have hu := ((valid_iff N).1 h).2.2.2.1
  intro b
  have hm := (size_full _).1 hu b.toNat b.toNat_lt
  unfold unAll at hm
  rw [foldl_union_mem, show zc.mem b.toNat = false from zero_mem _, Bool.false_or, List.any_eq_true] at hm
  obtain ⟨c, hc, hb⟩ := hm
  have hlt : N.cls.findIdx (fun c => c.has b) < N.cls.length := List.findIdx_lt_length_of_exists ⟨c, hc, by rw [has_mem]; exact hb⟩
  refine ⟨_, hlt, ?_⟩
  unfold idxC
  rw [if_pos hlt]
end Go.Proofs.YtgflelodpcgmbaaGreatDoor
/- Plain facts on runs of a normalizer: a message in pieces; what a beginning writes. -/
namespace Go.Proofs.YtgflelodpcgmbaaGreatDoor
open Go Go.RowKit Mem
set_option maxRecDepth 100000

theorem NZ.run_app (N : NZ) (s : St) (a b : List UInt8) : N.run s (a ++ b) = N.run (N.run s a) b := by
  unfold NZ.run; rw [List.foldl_append]
/-- a refused stream is in state 0 -/
def St.Inv (s : St) : Prop := s.ref = true → s.pos = 0
theorem NZ.step_inv (N : NZ) (s : St) (b : UInt8) (h : s.Inv) : (N.step s b).Inv := by
  unfold NZ.step
  split
  · exact h
  · intro hr
    have h3 : (N.cell s.pos.toNat b).act = 3 := of_decide_eq_true hr
    show (N.cell s.pos.toNat b).next = 0
    unfold Ce.next
    rw [if_pos h3]
theorem NZ.run_inv (N : NZ) (bs : List UInt8) : ∀ s : St, s.Inv → (N.run s bs).Inv := by
  induction bs with
  | nil => exact fun s h => h
  | cons b bs ih => exact fun s h => ih _ (N.step_inv s b h)
theorem NZ.step_pre (N : NZ) (p : Int) (r : Bool) (o o' : List UInt8) (b : UInt8) : N.step ⟨p, r, o' ++ o⟩ b = ⟨(N.step ⟨p, r, o⟩ b).pos, (N.step ⟨p, r, o⟩ b).ref, o' ++ (N.step ⟨p, r, o⟩ b).out⟩ := by
  unfold NZ.step
  cases r with
  | true => rfl
  | false => simp
theorem NZ.run_pre (N : NZ) (bs : List UInt8) : ∀ (p : Int) (r : Bool) (o o' : List UInt8), N.run ⟨p, r, o' ++ o⟩ bs = ⟨(N.run ⟨p, r, o⟩ bs).pos, (N.run ⟨p, r, o⟩ bs).ref, o' ++ (N.run ⟨p, r, o⟩ bs).out⟩ := by
  induction bs with
  | nil => exact fun p r o o' => rfl
  | cons b bs ih =>
    intro p r o o'
    show N.run (N.step ⟨p, r, o' ++ o⟩ b) bs = _
    rw [NZ.step_pre, ih]
    rfl
theorem NZ.run_from (N : NZ) (s : St) (bs : List UInt8) (h : s.Inv) : N.run s bs = ⟨(N.run ⟨at0 s.ref s.pos, s.ref, []⟩ bs).pos, (N.run ⟨at0 s.ref s.pos, s.ref, []⟩ bs).ref, s.out ++ (N.run ⟨at0 s.ref s.pos, s.ref, []⟩ bs).out⟩ := by
  have e : at0 s.ref s.pos = s.pos := by
    unfold at0
    split
    · rename_i hr; exact (h hr).symm
    · rfl
  rw [e, ← NZ.run_pre, List.append_nil]
theorem NZ.run_pos {N : NZ} (hv : N.valid = true) (hcov : N.Cov) (bs : List UInt8) : ∀ s : St, (0 ≤ s.pos ∧ s.pos < (N.rows.length : Int)) → 0 ≤ (N.run s bs).pos ∧ (N.run s bs).pos < (N.rows.length : Int) := by
  induction bs with
  | nil => exact fun s h => h
  | cons b bs ih => exact fun s h => ih _ (step_pos hv hcov s h b)
theorem NZ.okAt_of {N : NZ} (hv : N.valid = true) {p : Int} (h : 0 ≤ p ∧ p < (N.rows.length : Int)) : N.okAt p = true := by
  unfold NZ.okAt; rw [hv, Bool.true_and]; exact decide_eq_true h
theorem NZ.rows_pos {N : NZ} (hv : N.valid = true) : (0 : Int) ≤ 0 ∧ (0 : Int) < (N.rows.length : Int) := ⟨Int.le_refl _, by have := ((valid_iff N).1 hv).1.2.1; omega⟩
/-- the start -/
abbrev st0 : St := ⟨0, false, []⟩
theorem st0_inv : St.Inv st0 := fun h => by cases h
theorem NZ.acc_eq {N : NZ} (hv : N.valid = true) (bs : List UInt8) : N.acc bs = N.fin (N.run st0 bs).pos (N.run st0 bs).ref := by
  unfold NZ.acc; rw [NZ.okAt_of hv (NZ.rows_pos hv), Bool.true_and]

theorem Ce.out_le (c : Ce) (b : UInt8) : (c.out b).length ≤ 1 := by
  unfold Ce.out
  split
  · simp
  · split <;> simp
theorem NZ.step_le (N : NZ) (s : St) (b : UInt8) : (N.step s b).out.length ≤ s.out.length + 1 := by
  unfold NZ.step
  split
  · omega
  · have := Ce.out_le (N.cell s.pos.toNat b) b
    simp only [List.length_append]
    omega
/-- the output is not longer than the message -/
theorem NZ.out_le (N : NZ) (bs : List UInt8) : ∀ s : St, (N.run s bs).out.length ≤ s.out.length + bs.length := by
  induction bs with
  | nil => exact fun s => Nat.le_add_right _ _
  | cons b bs ih =>
    intro s
    have h1 := ih (N.step s b)
    have h2 := N.step_le s b
    show (N.run (N.step s b) bs).out.length ≤ _
    rw [List.length_cons]
    omega

/-- three pieces -/
theorem NZ.three {N : NZ} (hv : N.valid = true) (hcov : N.Cov) (x y z : List UInt8) (s t u : St) (hs : s = N.run ⟨0, false, []⟩ x) (ht : t = N.run ⟨at0 s.ref s.pos, s.ref, []⟩ y) (hu : u = N.run ⟨at0 t.ref t.pos, t.ref, []⟩ z) :
    N.okAt 0 = true ∧ N.okAt s.pos = true ∧ N.okAt t.pos = true ∧ N.acc (x ++ (y ++ z)) = N.fin u.pos u.ref ∧ s.out ++ (t.out ++ u.out) = (N.run ⟨0, false, []⟩ (x ++ (y ++ z))).out := by
  have i1 : s.Inv := by rw [hs]; exact N.run_inv x _ st0_inv
  have p1 : 0 ≤ s.pos ∧ s.pos < (N.rows.length : Int) := by rw [hs]; exact NZ.run_pos hv hcov x _ (NZ.rows_pos hv)
  have e2 := N.run_from s y i1
  rw [← ht] at e2
  have i2 : (N.run s y).Inv := N.run_inv y _ i1
  have p2 : 0 ≤ t.pos ∧ t.pos < (N.rows.length : Int) := by have := NZ.run_pos hv hcov y _ p1; rw [e2] at this; exact this
  have e3 := N.run_from (N.run s y) z i2
  rw [e2] at e3
  simp only at e3
  rw [← hu] at e3
  have e4 : N.run ⟨0, false, []⟩ (x ++ (y ++ z)) = ⟨u.pos, u.ref, s.out ++ t.out ++ u.out⟩ := by rw [NZ.run_app, ← hs, NZ.run_app, e2, e3]
  refine ⟨NZ.okAt_of hv (NZ.rows_pos hv), NZ.okAt_of hv p1, NZ.okAt_of hv p2, ?_, ?_⟩
  · rw [NZ.acc_eq hv]; show N.fin (N.run ⟨0, false, []⟩ _).pos (N.run ⟨0, false, []⟩ _).ref = _; rw [e4]
  · rw [e4, List.append_assoc]
/-- a beginning -/
theorem NZ.begins {N : NZ} (hv : N.valid = true) (hcov : N.Cov) (x y : List UInt8) : (N.run ⟨0, false, []⟩ x).out <+: (N.run ⟨0, false, []⟩ (x ++ y)).out := by
  have _ := hcov
  have _ := hv
  rw [NZ.run_app, N.run_from _ y (N.run_inv x _ st0_inv)]
  exact List.prefix_append _ _
end Go.Proofs.YtgflelodpcgmbaaGreatDoor
/- The normalizers that the reference makes of bytes, the passing and the refusing one, in plain Lean: valid, and every byte lies in a class. -/
namespace Go.Proofs.YtgflelodpcgmbaaGreatDoor
open Go Go.RowKit Mem
set_option maxRecDepth 100000

def clOa : Cl := ⟨0, 8589934592, 0, 0⟩
def clOb : Cl := ⟨0, 17179869184, 0, 0⟩
def clOo : Cl := ⟨18446744073709551615, 18446744047939747839, 18446744073709551615, 18446744073709551615⟩
def clAll : Cl := ⟨18446744073709551615, 18446744073709551615, 18446744073709551615, 18446744073709551615⟩

def mkAct (r : Nat) : Int := if r = 3 then 1 else if r = 4 then 2 else if r = 5 then 2 else if r = 6 then 3 else if r = 7 then 3 else 0
def mkB (r : Nat) : UInt8 := if r = 4 then 97 else if r = 5 then 98 else 0
/-- univocalref25.cell -/
def mkCell (k states : Nat) : Ce := ⟨((k / 8 % states : Nat) : Int), mkAct (k % 8), mkB (k % 8)⟩
def mkStates (l : List UInt8) : Nat := if 0 < l.length then 1 + (l[0]?.getD 0).toNat % 4 else 1
def mkX (l : List UInt8) (s k : Nat) : Nat := if 1 + 4 * s + k < l.length then (l[1 + 4 * s + k]?.getD 0).toNat else 0
def mkRow (l : List UInt8) (s n : Nat) : List Ce := (List.range n).map fun k => mkCell (mkX l s k) (mkStates l)
def mkEnd (l : List UInt8) (s : Nat) : Bool := if 4 + 4 * s < l.length then decide ((l[4 + 4 * s]?.getD 0).toNat % 4 ≠ 0) else true
def mkRows (l : List UInt8) (n : Nat) : List (List Ce) := (List.range n).map fun s => mkRow l s 3
def mkEnds (l : List UInt8) (n : Nat) : List Bool := (List.range n).map (mkEnd l)
/-- univocalref25.Made -/
def made (l : List UInt8) : NZ := ⟨[clOo, clOa, clOb], mkRows l (mkStates l), mkEnds l (mkStates l)⟩
def passN : NZ := ⟨[clAll], [[⟨0, 0, 0⟩]], [true]⟩
def refuseN : NZ := ⟨[clAll], [[⟨0, 3, 0⟩]], [false]⟩

theorem mkStates_bd (l : List UInt8) : 1 ≤ mkStates l ∧ mkStates l ≤ 4 := by unfold mkStates; split <;> omega
theorem mkX_bd (l : List UInt8) (s k : Nat) : mkX l s k < 256 := by
  unfold mkX; split
  · exact (l[1 + 4 * s + k]?.getD 0).toNat_lt
  · omega
theorem mkAct_bd : ∀ r, r < 8 → 0 ≤ mkAct r ∧ mkAct r ≤ 3 ∧ (mkAct r ≠ 2 → mkB r = 0) := by decide
theorem mkRow_succ (l : List UInt8) (s n : Nat) : mkRow l s (n + 1) = mkRow l s n ++ [mkCell (mkX l s n) (mkStates l)] := by unfold mkRow; rw [List.range_succ, List.map_append]; rfl
theorem mkRows_succ (l : List UInt8) (n : Nat) : mkRows l (n + 1) = mkRows l n ++ [mkRow l n 3] := by unfold mkRows; rw [List.range_succ, List.map_append]; rfl
theorem mkEnds_succ (l : List UInt8) (n : Nat) : mkEnds l (n + 1) = mkEnds l n ++ [mkEnd l n] := by unfold mkEnds; rw [List.range_succ, List.map_append]; rfl
theorem mkRow_length (l : List UInt8) (s n : Nat) : (mkRow l s n).length = n := by simp [mkRow]
theorem mkRows_length (l : List UInt8) (n : Nat) : (mkRows l n).length = n := by simp [mkRows]
theorem mkEnds_length (l : List UInt8) (n : Nat) : (mkEnds l n).length = n := by simp [mkEnds]
theorem mkCell_good (k n : Nat) (hn : 1 ≤ n) : (mkCell k n).bad n = false := by
  have h := mkAct_bd (k % 8) (Nat.mod_lt _ (by omega))
  have h2 : k / 8 % n < n := Nat.mod_lt _ (by omega)
  unfold Ce.bad mkCell
  rw [decide_eq_false_iff_not]
  simp only
  rintro (h3 | h3 | h3 | h3 | ⟨h3, h4⟩)
  · omega
  · omega
  · omega
  · omega
  · exact h4 (by rw [h.2.2 h3]; rfl)
theorem made_valid (l : List UInt8) : (made l).valid = true := by
  have hs := mkStates_bd l
  rw [valid_iff]
  have k1 : szSum [clOo, clOa, clOb] = 256 := by decide +kernel
  have k2 : (unAll [clOo, clOa, clOb]).size = 256 := by decide +kernel
  refine ⟨⟨show ([clOo, clOa, clOb] : List Cl).length ≤ 256 by decide, ?_, ?_, ?_⟩, ?_, k1, k2, ?_⟩
  · show 1 ≤ (mkRows l (mkStates l)).length; rw [mkRows_length]; omega
  · show (mkRows l (mkStates l)).length ≤ 64; rw [mkRows_length]; omega
  · show (mkEnds l (mkStates l)).length = (mkRows l (mkStates l)).length; rw [mkRows_length, mkEnds_length]
  · show ∀ c ∈ [clOo, clOa, clOb], c.size ≠ 0
    decide +kernel
  · intro r hr
    obtain ⟨s, _, rfl⟩ := List.mem_map.1 (show r ∈ (List.range (mkStates l)).map fun s => mkRow l s 3 from hr)
    refine ⟨mkRow_length _ _ _, ?_⟩
    rw [List.any_eq_false]
    intro c hc
    obtain ⟨k, _, rfl⟩ := List.mem_map.1 (show c ∈ (List.range 3).map fun k => mkCell (mkX l s k) (mkStates l) from hc)
    show ¬ (mkCell (mkX l s k) (mkStates l)).bad (mkRows l (mkStates l)).length = true
    rw [mkRows_length, mkCell_good _ _ hs.1]
    decide
theorem cov_of {N : NZ} (h2 : ∀ i : Fin 256, idxC N.cls (UInt8.ofNat i.1) = ((idxC N.cls (UInt8.ofNat i.1)).toNat : Int) ∧ (idxC N.cls (UInt8.ofNat i.1)).toNat < N.cls.length) : N.Cov := by
  intro b
  have h := h2 ⟨b.toNat, b.toNat_lt⟩
  have e : UInt8.ofNat b.toNat = b := by simp
  simp only [e] at h
  exact ⟨_, h.2, h.1⟩
theorem made_cov (l : List UInt8) : (made l).Cov := cov_of (show ∀ i : Fin 256, idxC [clOo, clOa, clOb] (UInt8.ofNat i.1) = ((idxC [clOo, clOa, clOb] (UInt8.ofNat i.1)).toNat : Int) ∧ (idxC [clOo, clOa, clOb] (UInt8.ofNat i.1)).toNat < [clOo, clOa, clOb].length by decide +kernel)
theorem pass_valid : passN.valid = true := by decide +kernel
theorem refuse_valid : refuseN.valid = true := by decide +kernel
theorem all_idx (b : UInt8) : idxC [clAll] b = 0 := by
  have h2 : ∀ i : Fin 256, idxC [clAll] (UInt8.ofNat i.1) = 0 := by decide +kernel
  have h := h2 ⟨b.toNat, b.toNat_lt⟩
  have e : UInt8.ofNat b.toNat = b := by simp
  simpa only [e] using h
theorem pass_cov : passN.Cov := fun b => ⟨0, by decide, all_idx b⟩
theorem refuse_cov : refuseN.Cov := fun b => ⟨0, by decide, all_idx b⟩
theorem pass_cell (b : UInt8) : passN.cell 0 b = ⟨0, 0, 0⟩ := by
  unfold NZ.cell
  rw [show idxC passN.cls b = 0 from all_idx b]
  rfl
theorem pass_run (bs : List UInt8) : ∀ o, passN.run ⟨0, false, o⟩ bs = ⟨0, false, o ++ bs⟩ := by
  induction bs with
  | nil => intro o; rw [List.append_nil]; rfl
  | cons b bs ih =>
    intro o
    show passN.run (passN.step ⟨0, false, o⟩ b) bs = _
    have : passN.step ⟨0, false, o⟩ b = ⟨0, false, o ++ [b]⟩ := by
      unfold NZ.step
      rw [if_neg (show ¬ (false = true) by decide)]
      show (⟨(passN.cell 0 b).next, (passN.cell 0 b).refuses, o ++ (passN.cell 0 b).out b⟩ : St) = _
      rw [pass_cell]
      rfl
    rw [this, ih, List.append_assoc]
    rfl
theorem pass_acc (bs : List UInt8) : passN.acc bs = true := by
  rw [NZ.acc_eq pass_valid, pass_run]
  show passN.fin 0 false = true
  decide +kernel
theorem refuse_acc (bs : List UInt8) : refuseN.acc bs = false := by
  rw [NZ.acc_eq refuse_valid]
  unfold NZ.fin
  have h : ∀ k : Nat, refuseN.ends[k]?.getD false = false := by
    intro k
    match k with
    | 0 => rfl
    | (k + 1) => rfl
  rw [h, Bool.and_false, Bool.and_false]
end Go.Proofs.YtgflelodpcgmbaaGreatDoor
