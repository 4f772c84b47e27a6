/- Arguments that are a record: a struct of a bool, an int and a slice of pairs of a string and a byte slice. -/
import Derived.Deep.SlicePairs
import Derived.ChangeSlices
import Derived.Test.YteglnpanimgelaaGreatDoorFrameR
import Derived.Test.YteglnpanimgelaaGreatDoorOwnF
namespace Go.Proofs.YteglnpanimgelaaGreatDoor
open Go.ChangeShapes Go.WideShapes Go.ChangeAt Go.RowKit Mem
set_option maxRecDepth 100000

namespace LawFrame
theorem cells4 : Tryz.prog.cellsOf 4 = 1 := by kernel_rfl
theorem cells9 : Tryz.prog.cellsOf 9 = 1 := by kernel_rfl
theorem cells31 : Tryz.prog.cellsOf 31 = 1 := by kernel_rfl
theorem cells33 : Tryz.prog.cellsOf 33 = 3 := by kernel_rfl
theorem cells36 : Tryz.prog.cellsOf 36 = 1 := by kernel_rfl
theorem cells49 : Tryz.prog.cellsOf 49 = 2 := by kernel_rfl

/-- an address at which a cell lies, and those behind it -/
theorem addr_of {W : World} {a : Addr} {n : Nat} {V : Nat → Value} (h0 : 0 < n) (h : ∀ i, i < n → W.cell? (a.add i) = some (V i)) : ∃ b o, a = ⟨b, o, none⟩ ∧ b < W.heap.size ∧ ∀ i, i < n → W.cell? ⟨b, o + i, none⟩ = some (V i) := by
  obtain ⟨b, o, spot⟩ := a
  have hh := h 0 h0
  have hs : spot = none := by simpa [Addr.add] using World.cell?_spot hh
  subst hs
  have hb := World.block_lt_of_cell? W _ hh
  have e : ∀ i, ((⟨b, o, none⟩ : Addr).add i) = ⟨b, o + i, none⟩ := fun i => by unfold Addr.add; split <;> simp_all
  rw [e] at hb
  exact ⟨b, o, rfl, hb, fun i hi => by rw [← e]; exact h i hi⟩

/-- a slice of bytes, by its reading -/
theorem open_bytes {H : Type} {enc : TypeId × Value → H} {W : World} {fuel : Nat} {v : Value} {x : DataW H × List MemPlace} (h : DataW.trod enc Tryz.prog W 0 (fun _ => true) true fuel 36 [v] = some x) : ∃ l : List UInt8, Rd u8V W v l := by
  rcases open_ints Tryz.underlying36 Tryz.underlying5 cells5 h with ⟨h0, _⟩ | ⟨a, len, cap, zs, h0, _, hl, hm, hz, _, hc, hwf⟩
  · cases h0
    exact ⟨[], .inl ⟨none, rfl, rfl⟩⟩
  · cases h0
    simp only [if_true] at hz
    by_cases hcap : cap = 0
    · subst hcap
      obtain rfl : len = 0 := by omega
      exact ⟨[], .inl ⟨some a, rfl, rfl⟩⟩
    · obtain ⟨b, o, rfl, hb, hcc⟩ := addr_of (n := zs.length) (by omega) hc
      have hlen : ((zs.take len).map fun z => UInt8.ofNat z.toNat).length = len := by simp; omega
      refine ⟨(zs.take len).map fun z => UInt8.ofNat z.toNat, .inr ⟨b, o, cap, by rw [hlen], by rw [hlen]; exact hl, ?_, hb⟩⟩
      intro i hi
      rw [hlen] at hi
      rw [hcc i (by omega), List.getElem?_map, List.getElem?_take_of_lt hi, List.getElem?_eq_getElem (by omega)]
      have hw := bounds_u8 (hwf zs[i] (List.getElem_mem (by omega)))
      simp only [Option.map_some, Option.some.injEq]
      rw [u8V]
      congr 1
      simp [show i < zs.length by omega]
      omega

/-- a slice of fields, by its reading -/
theorem open_fields {H : Type} {enc : TypeId × Value → H} {W : World} {fuel : Nat} {v : Value} {x : DataW H × List MemPlace} (h : DataW.trod enc Tryz.prog W 0 (fun _ => true) true fuel 31 [v] = some x) : ∃ fs : List Sha.F, Fields W v fs ∧ fs.length ≤ 9223372036854775807 := by
  rcases Go.Deep.open_slice_pairs Tryz.underlying31 Tryz.underlying49 cells49 rfl rfl cells9 cells36 h with ⟨h0, _⟩ | ⟨a, len, cap, m, n, V0, V1, D0, D1, P0, P1, h0, _, hl, hm, hmm, _, hc⟩
  · cases h0
    exact ⟨[], .inl ⟨none, rfl, rfl⟩, by simp⟩
  · cases h0
    simp only [if_true] at hmm
    subst hmm
    by_cases hcap : m = 0
    · subst hcap
      obtain rfl : len = 0 := by omega
      exact ⟨[], .inl ⟨some a, rfl, rfl⟩, by simp⟩
    · have h2 : ∀ i, i < m * 2 → W.cell? (a.add i) = some (if i % 2 = 0 then V0 (i / 2) else V1 (i / 2)) := by
        intro i hi
        have h3 := hc (i / 2) (by omega)
        by_cases hp : i % 2 = 0
        · rw [if_pos hp, ← h3.1]; congr 2; omega
        · rw [if_neg hp, ← h3.2.1]; congr 2; omega
      obtain ⟨b, o, rfl, hb, hcc⟩ := addr_of (n := m * 2) (by omega) h2
      have each : ∀ i, i < len → ∃ f : Sha.F, V0 i = .string f.1 ∧ Rd u8V W (V1 i) f.2 := by
        intro i hi
        obtain ⟨_, _, t0, t1⟩ := hc i (by omega)
        obtain ⟨s, e0, _, _⟩ := DataW.trod_string Tryz.underlying9 t0
        obtain ⟨l, e1⟩ := open_bytes t1
        simp only [List.cons.injEq, and_true] at e0
        exact ⟨(s, l), e0, e1⟩
      have : Inhabited Sha.F := ⟨(ByteArray.empty, [])⟩
      obtain ⟨q, hq⟩ := Go.Deep.choose_lt each
      refine ⟨(List.range len).map q, .inr ⟨b, o, m, by simp, hb, fun i hi => ?_⟩, by simp [maxLen] at hm ⊢; omega⟩
      have hi' : i < len := by simpa using hi
      have e1 := hcc (i * 2) (by omega)
      have e2 := hcc (i * 2 + 1) (by omega)
      rw [if_pos (by omega), show i * 2 / 2 = i by omega] at e1
      rw [if_neg (by omega), show (i * 2 + 1) / 2 = i by omega] at e2
      simp only [List.getElem_map, List.getElem_range]
      exact ⟨by rw [e1, (hq i hi').1], V1 i, by rw [Nat.add_assoc]; exact e2, (hq i hi').2⟩

theorem open_record {H : Type} {enc : TypeId × Value → H} {W : World} {base : Nat} {v : Value} {d : DataW H} {p : List MemPlace} (hval : Value.okWide Tryz.prog W .any base 33 v) (h : DataW.Trod enc Tryz.prog W 0 (fun _ => true) true 33 v d p) :
    ∃ (ok : Bool) (c : Int) (u : Value) (fs : List Sha.F), v = .agg #[.bool ok, .int .i64 c, u] ∧ Fields W u fs ∧ (-9223372036854775808 ≤ c ∧ c ≤ 9223372036854775807) ∧ fs.length ≤ 9223372036854775807 := by
  unfold Value.okWide at hval
  rw [Tryz.underlying33] at hval
  obtain ⟨cs, rfl, _, _⟩ := hval
  obtain ⟨fuel, hf⟩ := h
  obtain ⟨xs, m, _, _, hl, hn, hel⟩ := DataW.trod_struct Tryz.underlying33 hf
  obtain ⟨cs⟩ := cs
  have hl3 : cs.length = 3 := by rw [← cells33]; exact hl
  have hn3 : xs.length = 3 := hn
  have g0 : DataW.trod enc Tryz.prog W 0 (fun _ => true) true m 4 ((cs.drop 0).take (Tryz.prog.cellsOf 4)) = xs[0]? := hel 0 _ rfl
  have g1 : DataW.trod enc Tryz.prog W 0 (fun _ => true) true m 3 ((cs.drop 1).take (Tryz.prog.cellsOf 3)) = xs[1]? := hel 1 _ rfl
  have g2 : DataW.trod enc Tryz.prog W 0 (fun _ => true) true m 31 ((cs.drop 2).take (Tryz.prog.cellsOf 31)) = xs[2]? := hel 2 _ rfl
  rw [List.getElem?_eq_getElem (by omega)] at g0 g1 g2
  match cs, hl3 with
  | [c0, c1, c2], _ =>
    simp only [cells4, cells3, cells31, List.drop, List.take] at g0 g1 g2
    obtain ⟨ok, e0, _⟩ := DataW.trod_bool Tryz.underlying4 g0
    obtain ⟨c, e1, _, hw⟩ := DataW.trod_int Tryz.underlying3 g1
    obtain ⟨fs, hF, hlen⟩ := open_fields g2
    cases e0
    cases e1
    exact ⟨ok, c, c2, fs, rfl, hF, bounds_i64 hw, hlen⟩
end LawFrame
end Go.Proofs.YteglnpanimgelaaGreatDoor
