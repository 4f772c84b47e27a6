/- Parts of a slice of bytes. -/
import Derived.Lib.MinMax
import Derived.Test.YtgflelodpcgmbaaGreatDoorMEqNS
namespace Go.Proofs.YtgflelodpcgmbaaGreatDoor
open Go Go.RowKit Mem
set_option maxRecDepth 100000

theorem rd_cut {W : World} {p : Option Addr} {c : Nat} {l : List UInt8} (hv : Rd u8V W (.slice p l.length c) l) (i j : Nat) (hij : i ≤ j) (hj : j ≤ l.length) :
    Rd u8V W (.slice (if c = i then p else p.map (·.add (i * 1))) (j - i) (c - i)) ((l.drop i).take (j - i)) := by
  rcases hv with ⟨q, he, rfl⟩ | ⟨b, o, cap, he, hc, hat, hl⟩
  · injection he with h1 h2 h3
    subst h1; subst h3
    have hi : i = 0 := by simp at hj; omega
    have hj0 : j = 0 := by simp at hj; omega
    subst hi; subst hj0
    exact .inl ⟨_, rfl, by simp⟩
  · injection he with h1 h2 h3
    subst h1; subst h3
    by_cases hci : c = i
    · rw [if_pos hci]
      have : j - i = 0 := by omega
      rw [this, hci, Nat.sub_self]
      exact .inl ⟨_, rfl, by simp⟩
    · rw [if_neg hci]
      have hadd : (⟨b, o, none⟩ : Addr).add i = ⟨b, o + i, none⟩ := by unfold Addr.add; split <;> simp_all
      have hlen : ((l.drop i).take (j - i)).length = j - i := by rw [List.length_take, List.length_drop]; omega
      refine .inr ⟨b, o + i, c - i, by rw [hlen, Nat.mul_one, Option.map_some, hadd], by rw [hlen]; omega, fun k hk => ?_, hl⟩
      rw [hlen] at hk
      rw [Nat.add_assoc, hat (i + k) (by omega), List.getElem?_take_of_lt hk, List.getElem?_drop]
theorem len_cut {l : List UInt8} (i j : Nat) (hj : j ≤ l.length) : ((l.drop i).take (j - i)).length = j - i := by rw [List.length_take, List.length_drop]; omega
section
variable {P : Program} {t e : TypeId} {W : World} {p : Option Addr} {c : Nat} {l : List UInt8}
theorem rd_cap (hv : Rd u8V W (.slice p l.length c) l) : l.length ≤ c := by
  rcases hv with ⟨q, he, rfl⟩ | ⟨b, o, cap, he, hc, _⟩
  · simp
  · injection he with _ _ h3; omega
theorem cut_lh (ht : P.underlying t = some (.slice e)) (hs : ∀ w, (Go.sizeOf e).run P w = .ok 1 w) (hv : Rd u8V W (.slice p l.length c) l) (i j : Nat) (hij : i ≤ j) (hj : j ≤ l.length) :
    ∃ q, (∀ w, (Instr.sliceAt t (.slice p l.length c) (some (.int .i64 i)) (some (.int .i64 j)) none).run P w = .ok (.slice q ((l.drop i).take (j - i)).length (c - i)) w) ∧ Rd u8V W (.slice q ((l.drop i).take (j - i)).length (c - i)) ((l.drop i).take (j - i)) := by
  have hc := rd_cap hv
  refine ⟨_, fun w => ?_, by rw [len_cut i j hj]; exact rd_cut hv i j hij hj⟩
  have h1 : (0 : Int) ≤ (i : Int) ∧ (i : Int) ≤ (j : Int) ∧ (j : Int) ≤ (c : Int) ∧ (0 : Int) ≤ (j : Int) := by omega
  rw [len_cut i j hj]
  simp [Instr.sliceAt, Instr.slice, run_underlying ht, Instr.sliceBounds, run_sliceBound, hs, h1]
theorem cut_h (ht : P.underlying t = some (.slice e)) (hs : ∀ w, (Go.sizeOf e).run P w = .ok 1 w) (hv : Rd u8V W (.slice p l.length c) l) (j : Nat) (hj : j ≤ l.length) :
    ∃ q, (∀ w, (Instr.sliceAt t (.slice p l.length c) none (some (.int .i64 j)) none).run P w = .ok (.slice q (l.take j).length c) w) ∧ Rd u8V W (.slice q (l.take j).length c) (l.take j) := by
  have hc := rd_cap hv
  have h := rd_cut hv 0 j (Nat.zero_le _) hj
  have hlen : (l.take j).length = j := by rw [List.length_take]; omega
  refine ⟨if c = 0 then p else p.map (·.add (0 * 1)), fun w => ?_, by rw [hlen]; simpa using h⟩
  have h1 : (j : Int) ≤ (c : Int) ∧ (0 : Int) ≤ (j : Int) := by omega
  rw [hlen]
  simp [Instr.sliceAt, Instr.slice, run_underlying ht, Instr.sliceBounds, run_sliceBound, hs, h1]
theorem cut_l (ht : P.underlying t = some (.slice e)) (hs : ∀ w, (Go.sizeOf e).run P w = .ok 1 w) (hv : Rd u8V W (.slice p l.length c) l) (i : Nat) (hi : i ≤ l.length) :
    ∃ q, (∀ w, (Instr.sliceAt t (.slice p l.length c) (some (.int .i64 i)) none none).run P w = .ok (.slice q (l.drop i).length (c - i)) w) ∧ Rd u8V W (.slice q (l.drop i).length (c - i)) (l.drop i) := by
  have hc := rd_cap hv
  have h := rd_cut hv i l.length hi (Nat.le_refl _)
  have hlen : (l.drop i).length = l.length - i := List.length_drop
  have htk : (l.drop i).take (l.length - i) = l.drop i := List.take_of_length_le (by rw [hlen]; omega)
  rw [htk] at h
  refine ⟨if c = i then p else p.map (·.add (i * 1)), fun w => ?_, by rw [hlen]; exact h⟩
  have h1 : (0 : Int) ≤ (i : Int) ∧ (i : Int) ≤ (l.length : Int) := by omega
  rw [hlen]
  simp [Instr.sliceAt, Instr.slice, run_underlying ht, Instr.sliceBounds, run_sliceBound, hs, h1]
end
theorem size8 (w : World) : (Go.sizeOf 5).run Tryz.prog w = .ok 1 w := by kernel_rfl
end Go.Proofs.YtgflelodpcgmbaaGreatDoor
