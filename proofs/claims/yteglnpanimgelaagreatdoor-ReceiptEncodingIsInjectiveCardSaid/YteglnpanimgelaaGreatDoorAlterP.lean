/- Plain: a receipt's cells, one of them changed. -/
import Derived.Test.YteglnpanimgelaaGreatDoorRec
namespace Go.Proofs.YteglnpanimgelaaGreatDoor.Mem
open Go Go.RowKit

/-- three ints and 96 bytes -/
def IsRec (l : List (Int ⊕ UInt8)) : Prop := ∃ (n v s : Int) (b : List UInt8), b.length = 96 ∧ l = [.inl n, .inl v, .inl s] ++ b.map Sum.inr
variable {l : List (Int ⊕ UInt8)}
theorem IsRec.length (h : IsRec l) : l.length = 99 := by
  obtain ⟨n, v, s, b, hb, rfl⟩ := h
  simp [hb]
theorem IsRec.of (n v s : Int) {m r c : List UInt8} (hm : m.length = 32) (hr : r.length = 32) (hc : c.length = 32) : IsRec (recL n v s m r c) :=
  ⟨n, v, s, m ++ r ++ c, by simp [hm, hr, hc], by simp [recL]⟩
theorem IsRec.split (h : IsRec l) : ∃ (n v s : Int) (m r c : List UInt8), m.length = 32 ∧ r.length = 32 ∧ c.length = 32 ∧ l = recL n v s m r c := by
  obtain ⟨n, v, s, b, hb, rfl⟩ := h
  refine ⟨n, v, s, b.take 32, (b.drop 32).take 32, b.drop 64, by simp [hb], by simp [hb], by simp [hb], ?_⟩
  have h1 : b = b.take 32 ++ ((b.drop 32).take 32 ++ b.drop 64) := by
    conv => lhs; rw [← List.take_append_drop 32 b, ← List.take_append_drop 32 (b.drop 32), List.drop_drop]
  conv => lhs; rw [h1]
  simp [recL]
theorem IsRec.int (h : IsRec l) (i : Nat) (hi : i < 3) (z : Int) : IsRec (l.set i (.inl z)) := by
  obtain ⟨n, v, s, b, hb, rfl⟩ := h
  have : i = 0 ∨ i = 1 ∨ i = 2 := by omega
  rcases this with rfl | rfl | rfl
  · exact ⟨z, v, s, b, hb, rfl⟩
  · exact ⟨n, z, s, b, hb, rfl⟩
  · exact ⟨n, v, z, b, hb, rfl⟩
theorem IsRec.byte (h : IsRec l) (i : Nat) (h1 : 3 ≤ i) (y : UInt8) : IsRec (l.set i (.inr y)) := by
  obtain ⟨n, v, s, b, hb, rfl⟩ := h
  refine ⟨n, v, s, b.set (i - 3) y, by simpa using hb, ?_⟩
  rw [List.set_append_right _ _ (by simpa using h1), List.map_set]
  rfl
theorem IsRec.at_int (h : IsRec l) (i : Nat) (hi : i < 3) : ∃ z, l[i]? = some (.inl z) := by
  obtain ⟨n, v, s, b, hb, rfl⟩ := h
  have : i = 0 ∨ i = 1 ∨ i = 2 := by omega
  rcases this with rfl | rfl | rfl
  · exact ⟨n, rfl⟩
  · exact ⟨v, rfl⟩
  · exact ⟨s, rfl⟩
theorem IsRec.at_byte (h : IsRec l) (i : Nat) (h1 : 3 ≤ i) (h2 : i < 99) : ∃ y, l[i]? = some (.inr y) := by
  obtain ⟨n, v, s, b, hb, rfl⟩ := h
  rw [List.getElem?_append_right (by simpa using h1), List.getElem?_map, List.getElem?_eq_getElem (by simp; omega)]
  exact ⟨_, rfl⟩
end Go.Proofs.YteglnpanimgelaaGreatDoor.Mem
