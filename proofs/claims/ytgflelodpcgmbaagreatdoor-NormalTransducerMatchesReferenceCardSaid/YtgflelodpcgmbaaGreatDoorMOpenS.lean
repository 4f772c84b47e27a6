/- Arguments that are a scope: what their readings say. -/
import Derived.Test.YtgflelodpcgmbaaGreatDoorMOpenN
namespace Go.Proofs.YtgflelodpcgmbaaGreatDoor
open Go Go.ChangeShapes Go.WideShapes Go.ChangeAt Go.RowKit Mem
set_option maxRecDepth 100000
namespace LawFrame
theorem cellsScp : Tryz.prog.cellsOf 42 = 2 := by kernel_rfl
theorem cellsSU8 : Tryz.prog.cellsOf 29 = 1 := by kernel_rfl
theorem open_scope {H : Type} {enc : TypeId × Value → H} {W : World} {base : Nat} {v : Value} {d : DataW H} {p : List MemPlace} (hval : Value.okWide Tryz.prog W .any base 42 v) (h : DataW.Trod enc Tryz.prog W 0 (fun _ => true) true 42 v d p) :
    ∃ (al : List UInt8) (pa : Option Addr) (ka : Nat) (most : Int), v = .agg #[.slice pa al.length ka, .int .i64 most] ∧ Rd u8V W (.slice pa al.length ka) al := by
  unfold Value.okWide at hval
  rw [Tryz.underlying42] at hval
  obtain ⟨cs, rfl, _, _⟩ := hval
  obtain ⟨fuel, hf⟩ := h
  obtain ⟨xs, m, _, _, hl, hn, hel⟩ := DataW.trod_struct Tryz.underlying42 hf
  obtain ⟨cs⟩ := cs
  have hl2 : cs.length = 2 := by rw [← cellsScp]; exact hl
  have hn2 : xs.length = 2 := hn
  have g0 : DataW.trod enc Tryz.prog W 0 (fun _ => true) true m 29 ((cs.drop 0).take (Tryz.prog.cellsOf 29)) = xs[0]? := hel 0 _ rfl
  have g1 : DataW.trod enc Tryz.prog W 0 (fun _ => true) true m 3 ((cs.drop 1).take (Tryz.prog.cellsOf 3)) = xs[1]? := hel 1 _ rfl
  rw [List.getElem?_eq_getElem (by omega)] at g0 g1
  match cs, hl2 with
  | [c0, c1], _ =>
    simp only [cellsI, cellsSU8, List.drop, List.take] at g0 g1
    obtain ⟨al, hal⟩ := open_bytes g0
    obtain ⟨z, e1, _, _⟩ := DataW.trod_int Tryz.underlying3 g1
    cases e1
    obtain ⟨pa, ka, rfl⟩ := hal.slice
    exact ⟨al, pa, ka, z, rfl, hal⟩
end LawFrame
end Go.Proofs.YtgflelodpcgmbaaGreatDoor
