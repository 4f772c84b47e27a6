/- Plain Lean: the encoding of a record is injective; the first eight bytes of a digest as a number; samples. -/
import Derived.Test.YteglnpanimgelaaGreatDoorEncode
import Derived.Test.YteglnpanimgelaaGreatDoorRefNumber
namespace Go.Proofs.YteglnpanimgelaaGreatDoor.Sha

theorem le_cons (x n : Nat) : le x (n + 1) = UInt8.ofNat x :: le (x / 256) n := by
  unfold le
  rw [List.range_succ_eq_map, List.map_cons, List.map_map]
  congr 1
  apply List.map_congr_left
  intro i _
  show UInt8.ofNat (x >>> (8 * (i + 1))) = UInt8.ofNat ((x / 256) >>> (8 * i))
  rw [Nat.mul_add, Nat.mul_one, Nat.add_comm, Nat.shiftRight_add, Nat.shiftRight_eq_div_pow x 8]
theorem le_inj (n : Nat) : ∀ (x y : Nat), x < 256 ^ n → y < 256 ^ n → le x n = le y n → x = y := by
  induction n with
  | zero => intro x y hx hy _; simp at hx hy; omega
  | succ n ih =>
    intro x y hx hy h
    rw [le_cons, le_cons, List.cons.injEq] at h
    have h2 := ih (x / 256) (y / 256) (by rw [Nat.pow_succ] at hx; omega) (by rw [Nat.pow_succ] at hy; omega) h.2
    have h1 := congrArg UInt8.toNat h.1
    simp only [UInt8.toNat_ofNat'] at h1
    omega
theorem u64_lt (x : Int) : u64 x < 256 ^ 8 := by unfold u64; omega
theorem u64_inj (x y : Int) (hx : -9223372036854775808 ≤ x ∧ x ≤ 9223372036854775807) (hy : -9223372036854775808 ≤ y ∧ y ≤ 9223372036854775807) (h : u64 x = u64 y) : x = y := by
  unfold u64 at h; omega
theorem lb_inj (m m' r r' : List UInt8) (hm : m.length < 256 ^ 4) (hm' : m'.length < 256 ^ 4) (h : lb m ++ r = lb m' ++ r') : m = m' ∧ r = r' := by
  unfold lb at h
  rw [List.append_assoc, List.append_assoc] at h
  obtain ⟨h1, h2⟩ := List.append_inj h (by rw [le_length, le_length])
  have h3 := le_inj 4 _ _ hm hm' h1
  exact List.append_inj h2 h3
/-- names and values are short -/
def Short (fs : List F) : Prop := ∀ f ∈ fs, f.1.data.toList.length < 256 ^ 4 ∧ f.2.length < 256 ^ 4
theorem encs_inj (fs : List F) : ∀ (gs : List F), fs.length = gs.length → Short fs → Short gs → (fs.map encF).flatten = (gs.map encF).flatten → fs = gs := by
  induction fs with
  | nil => intro gs hl _ _ _; exact (List.length_eq_zero_iff.1 hl.symm).symm
  | cons f fs ih =>
    intro gs hl hf hg h
    cases gs with
    | nil => simp at hl
    | cons g gs =>
      simp only [List.map_cons, List.flatten_cons, encF] at h
      rw [List.append_assoc, List.append_assoc] at h
      obtain ⟨h1, h2⟩ := lb_inj _ _ _ _ (hf f (by simp)).1 (hg g (by simp)).1 h
      obtain ⟨h3, h4⟩ := lb_inj _ _ _ _ (hf f (by simp)).2 (hg g (by simp)).2 h2
      have h5 := ih gs (by simpa using hl) (fun x hx => hf x (List.mem_cons_of_mem _ hx)) (fun x hx => hg x (List.mem_cons_of_mem _ hx)) h4
      have h6 : f = g := by
        obtain ⟨⟨a⟩, b⟩ := f; obtain ⟨⟨c⟩, d⟩ := g
        simp only at h1 h3
        have := Array.toList_inj.1 h1
        rw [this, h3]
      rw [h5, h6]
theorem enc_inj (ok ok' : Bool) (code code' : Int) (fs gs : List F) (hc : -9223372036854775808 ≤ code ∧ code ≤ 9223372036854775807) (hc' : -9223372036854775808 ≤ code' ∧ code' ≤ 9223372036854775807)
    (hf : Short fs) (hg : Short gs) (hfl : fs.length < 256 ^ 4) (hgl : gs.length < 256 ^ 4) (h : enc ok code fs = enc ok' code' gs) : ok = ok' ∧ code = code' ∧ fs = gs := by
  unfold enc at h
  simp only [List.append_assoc] at h
  obtain ⟨h1, h2⟩ := List.append_inj h (by rw [le_length, le_length])
  obtain ⟨h3, h4⟩ := List.append_inj h2 (by rw [le_length, le_length])
  obtain ⟨h5, h6⟩ := List.append_inj h4 (by rw [le_length, le_length])
  refine ⟨?_, u64_inj _ _ hc hc' (le_inj 8 _ _ (u64_lt _) (u64_lt _) h3), encs_inj fs gs (le_inj 4 _ _ hfl hgl h5) hf hg h6⟩
  have := le_inj 1 _ _ (by cases ok <;> decide) (by cases ok' <;> decide) h1
  cases ok <;> cases ok' <;> simp_all
/-- the number that the first k bytes encode, as an or -/
def orN (d : List UInt8) : Nat → Nat
  | 0 => 0
  | k + 1 => orN d k + (d[k]?.getD 0).toNat * 256 ^ k
theorem orN_lt (d : List UInt8) (k : Nat) : orN d k < 256 ^ k := by
  induction k with
  | zero => simp [orN]
  | succ k ih =>
    have h : (d[k]?.getD 0).toNat < 256 := UInt8.toNat_lt _
    rw [orN, Nat.pow_succ]
    have : (d[k]?.getD 0).toNat * 256 ^ k ≤ 255 * 256 ^ k := Nat.mul_le_mul_right _ (by omega)
    omega
theorem orN_first (d : List UInt8) : orN d 8 = first d 8 := by
  simp only [orN, first]
  simp only [show 7 - 0 = 7 from rfl, show 7 - 1 = 6 from rfl, show 7 - 2 = 5 from rfl, show 7 - 3 = 4 from rfl, show 7 - 4 = 3 from rfl, show 7 - 5 = 2 from rfl, show 7 - 6 = 1 from rfl, show 7 - 7 = 0 from rfl]
  omega
/-- is number i sampled? -/
def hit (seed : List UInt8) (rate : Nat) (i : Nat) : Bool := first (keyed seed (le i 8)) 8 % rate == 0
/-- the numbers below n that are sampled -/
def samp (seed : List UInt8) (rate n : Nat) : List Int := ((List.range n).filter (hit seed rate)).map Int.ofNat
theorem samp_zero (seed : List UInt8) (rate : Nat) : samp seed rate 0 = [] := rfl
theorem samp_yes (seed : List UInt8) (rate n : Nat) (h : hit seed rate n = true) : samp seed rate (n + 1) = samp seed rate n ++ [(n : Int)] := by
  simp [samp, List.range_succ, List.filter_append, h]
theorem samp_no (seed : List UInt8) (rate n : Nat) (h : hit seed rate n = false) : samp seed rate (n + 1) = samp seed rate n := by
  simp [samp, List.range_succ, List.filter_append, h]
theorem samp_len (seed : List UInt8) (rate n : Nat) : (samp seed rate n).length ≤ n := by
  unfold samp
  rw [List.length_map]
  exact Nat.le_trans (List.length_filter_le _ _) (by simp)
theorem samp_prefix (seed : List UInt8) (rate : Nat) {m n : Nat} (h : m ≤ n) : ∃ r, samp seed rate n = samp seed rate m ++ r ∧ ∀ x ∈ r, (m : Int) ≤ x ∧ x < (n : Int) := by
  induction n with
  | zero => obtain rfl : m = 0 := by omega
            exact ⟨[], by simp, by simp⟩
  | succ n ih =>
    by_cases hm : m = n + 1
    · subst hm; exact ⟨[], by simp, by simp⟩
    · obtain ⟨r, h1, h2⟩ := ih (by omega)
      cases hh : hit seed rate n with
      | true =>
        refine ⟨r ++ [(n : Int)], by rw [samp_yes _ _ _ hh, h1, List.append_assoc], fun x hx => ?_⟩
        rcases List.mem_append.1 hx with hx | hx
        · have := h2 x hx; omega
        · simp at hx; omega
      | false => exact ⟨r, by rw [samp_no _ _ _ hh, h1], fun x hx => by have := h2 x hx; omega⟩
theorem samp_range (seed : List UInt8) (rate n : Nat) : ∀ x ∈ samp seed rate n, 0 ≤ x ∧ x < (n : Int) := by
  obtain ⟨r, h1, h2⟩ := samp_prefix seed rate (Nat.zero_le n)
  rw [samp_zero, List.nil_append] at h1
  rw [h1]
  intro x hx
  have := h2 x hx
  omega
theorem samp_sorted (seed : List UInt8) (rate n : Nat) : (samp seed rate n).Pairwise (· < ·) := by
  induction n with
  | zero => simp [samp]
  | succ n ih =>
    cases hh : hit seed rate n with
    | true =>
      rw [samp_yes _ _ _ hh, List.pairwise_append]
      refine ⟨ih, by simp, fun x hx y hy => ?_⟩
      have := samp_range _ _ _ x hx
      simp at hy; omega
    | false => rw [samp_no _ _ _ hh]; exact ih
theorem samp_all (seed : List UInt8) (n : Nat) : samp seed 1 n = (List.range n).map Int.ofNat := by
  unfold samp
  rw [List.filter_eq_self.2]
  intro i _
  simp [hit, Nat.mod_one]
end Go.Proofs.YteglnpanimgelaaGreatDoor.Sha
