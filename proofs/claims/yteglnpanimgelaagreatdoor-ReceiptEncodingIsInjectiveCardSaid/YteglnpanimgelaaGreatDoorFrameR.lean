/- Arguments that are a receipt, two digests, two bytes. -/
import Derived.Test.YteglnpanimgelaaGreatDoorFrame
import Derived.Test.YteglnpanimgelaaGreatDoorAlterP
namespace Go.Proofs.YteglnpanimgelaaGreatDoor
open Go.ChangeShapes Go.WideShapes Go.ChangeAt Go.RowKit Mem
set_option maxRecDepth 100000

namespace LawFrame
theorem drop_split {α : Type} (l : List α) (a b c : Nat) (h : a + b = c) : l.drop a = (l.drop a).take b ++ l.drop c := by
  subst h
  rw [← List.drop_drop, List.take_append_drop]
theorem cells3 : Tryz.prog.cellsOf 3 = 1 := by kernel_rfl
theorem cells40 : Tryz.prog.cellsOf 40 = 99 := by kernel_rfl
theorem cells41 : Tryz.prog.cellsOf 41 = 64 := by kernel_rfl
theorem cells42p : Tryz.prog.cellsOf 42 = 2 := by kernel_rfl

theorem open_receipt {H : Type} {enc : TypeId × Value → H} {W : World} {base : Nat} {v : Value} {d : DataW H} {p : List MemPlace} (hval : Value.okWide Tryz.prog W .any base 40 v) (h : DataW.Trod enc Tryz.prog W 0 (fun _ => true) true 40 v d p) :
    ∃ l, IsRec l ∧ v = .agg (l.map cV).toArray := by
  unfold Value.okWide at hval
  rw [Tryz.underlying40] at hval
  obtain ⟨cs, rfl, _, _⟩ := hval
  obtain ⟨fuel, hf⟩ := h
  obtain ⟨xs, m, _, _, hl, hn, hel⟩ := DataW.trod_struct Tryz.underlying40 hf
  obtain ⟨cs⟩ := cs
  have hl99 : cs.length = 99 := by rw [← cells40]; exact hl
  have hn6 : xs.length = 6 := hn
  have g0 : DataW.trod enc Tryz.prog W 0 (fun _ => true) true m 3 ((cs.drop 0).take (Tryz.prog.cellsOf 3)) = xs[0]? := hel 0 _ rfl
  have g1 : DataW.trod enc Tryz.prog W 0 (fun _ => true) true m 3 ((cs.drop 1).take (Tryz.prog.cellsOf 3)) = xs[1]? := hel 1 _ rfl
  have g2 : DataW.trod enc Tryz.prog W 0 (fun _ => true) true m 3 ((cs.drop 2).take (Tryz.prog.cellsOf 3)) = xs[2]? := hel 2 _ rfl
  have g3 : DataW.trod enc Tryz.prog W 0 (fun _ => true) true m 23 ((cs.drop 3).take (Tryz.prog.cellsOf 23)) = xs[3]? := hel 3 _ rfl
  have g4 : DataW.trod enc Tryz.prog W 0 (fun _ => true) true m 23 ((cs.drop 35).take (Tryz.prog.cellsOf 23)) = xs[4]? := hel 4 _ rfl
  have g5 : DataW.trod enc Tryz.prog W 0 (fun _ => true) true m 23 ((cs.drop 67).take (Tryz.prog.cellsOf 23)) = xs[5]? := hel 5 _ rfl
  rw [List.getElem?_eq_getElem (by omega)] at g0 g1 g2 g3 g4 g5
  simp only [cells3, cells23] at g0 g1 g2 g3 g4 g5
  obtain ⟨n0, e0, _, _⟩ := DataW.trod_int Tryz.underlying3 g0
  obtain ⟨n1, e1, _, _⟩ := DataW.trod_int Tryz.underlying3 g1
  obtain ⟨n2, e2, _, _⟩ := DataW.trod_int Tryz.underlying3 g2
  obtain ⟨l3, h3, e3⟩ := bytes_of Tryz.underlying23 Tryz.underlying5 cells5 cells23 g3
  obtain ⟨l4, h4, e4⟩ := bytes_of Tryz.underlying23 Tryz.underlying5 cells5 cells23 g4
  obtain ⟨l5, h5, e5⟩ := bytes_of Tryz.underlying23 Tryz.underlying5 cells5 cells23 g5
  refine ⟨recL n0 n1 n2 l3 l4 l5, IsRec.of n0 n1 n2 h3 h4 h5, ?_⟩
  have hcs : cs = (recL n0 n1 n2 l3 l4 l5).map cV := by
    have k0 := drop_split cs 0 1 1 rfl
    have k1 := drop_split cs 1 1 2 rfl
    have k2 := drop_split cs 2 1 3 rfl
    have k3 := drop_split cs 3 32 35 rfl
    have k4 := drop_split cs 35 32 67 rfl
    have k5 := drop_split cs 67 32 99 rfl
    rw [List.drop_eq_nil_of_le (show cs.length ≤ 99 by omega), List.append_nil] at k5
    rw [e0] at k0; rw [e1] at k1; rw [e2] at k2; rw [e3] at k3; rw [e4] at k4; rw [e5] at k5
    rw [k1, k2, k3, k4, k5, List.drop_zero] at k0
    rw [k0]
    simp [recL, cV, Function.comp_def]
  rw [hcs]

theorem open_two {H : Type} {enc : TypeId × Value → H} {W : World} {base : Nat} {v : Value} {d : DataW H} {p : List MemPlace} (hval : Value.okWide Tryz.prog W .any base 41 v) (h : DataW.Trod enc Tryz.prog W 0 (fun _ => true) true 41 v d p) :
    ∃ k0 k1 : List UInt8, k0.length = 32 ∧ k1.length = 32 ∧ v = .agg ((k0 ++ k1).map u8V).toArray := by
  unfold Value.okWide at hval
  rw [Tryz.underlying41] at hval
  obtain ⟨cs, rfl, _, _⟩ := hval
  obtain ⟨fuel, hf⟩ := h
  obtain ⟨xs, m, _, _, hl, hn, hel⟩ := DataW.trod_array Tryz.underlying41 hf
  obtain ⟨cs⟩ := cs
  have hl64 : cs.length = 64 := by rw [← cells41]; exact hl
  have g0 : DataW.trod enc Tryz.prog W 0 (fun _ => true) true m 23 ((cs.drop (0 * Tryz.prog.cellsOf 23)).take (Tryz.prog.cellsOf 23)) = xs[0]? := hel 0 (by omega)
  have g1 : DataW.trod enc Tryz.prog W 0 (fun _ => true) true m 23 ((cs.drop (1 * Tryz.prog.cellsOf 23)).take (Tryz.prog.cellsOf 23)) = xs[1]? := hel 1 (by omega)
  rw [List.getElem?_eq_getElem (by omega)] at g0 g1
  simp only [cells23, Nat.zero_mul, Nat.one_mul] at g0 g1
  obtain ⟨l0, h0, e0⟩ := bytes_of Tryz.underlying23 Tryz.underlying5 cells5 cells23 g0
  obtain ⟨l1, h1, e1⟩ := bytes_of Tryz.underlying23 Tryz.underlying5 cells5 cells23 g1
  refine ⟨l0, l1, h0, h1, ?_⟩
  have k0 := drop_split cs 0 32 32 rfl
  have k1 := drop_split cs 32 32 64 rfl
  rw [List.drop_eq_nil_of_le (show cs.length ≤ 64 by omega), List.append_nil] at k1
  rw [e0] at k0; rw [e1] at k1
  rw [k1, List.drop_zero] at k0
  rw [k0, List.map_append]

theorem open_pair2 {H : Type} {enc : TypeId × Value → H} {W : World} {base : Nat} {v : Value} {d : DataW H} {p : List MemPlace} (hval : Value.okWide Tryz.prog W .any base 42 v) (h : DataW.Trod enc Tryz.prog W 0 (fun _ => true) true 42 v d p) :
    ∃ a b : UInt8, v = .agg #[.int .u8 (a.toNat : Int), .int .u8 (b.toNat : Int)] := by
  unfold Value.okWide at hval
  rw [Tryz.underlying42] at hval
  obtain ⟨cs, rfl, _, _⟩ := hval
  obtain ⟨fuel, hf⟩ := h
  obtain ⟨l, hl, he⟩ := bytes_of Tryz.underlying42 Tryz.underlying5 cells5 cells42p hf
  match l, hl with
  | [a, b], _ =>
    refine ⟨a, b, ?_⟩
    have : cs.toList = [Mem.u8V a, Mem.u8V b] := he
    obtain ⟨l⟩ := cs
    simp only at this
    rw [this]
    rfl
end LawFrame
end Go.Proofs.YteglnpanimgelaaGreatDoor
