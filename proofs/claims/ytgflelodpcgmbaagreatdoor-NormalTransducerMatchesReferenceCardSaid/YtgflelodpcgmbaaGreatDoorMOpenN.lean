/- Arguments that are a normalizer or a state of one: what their readings say. -/
import Derived.Test.YtgflelodpcgmbaaGreatDoorMFrame
import Derived.Test.YtgflelodpcgmbaaGreatDoorMNWrite
import Derived.Deep.Slices
import Derived.Deep.Grids
namespace Go.Proofs.YtgflelodpcgmbaaGreatDoor
open Go Go.ChangeShapes Go.WideShapes Go.ChangeAt Go.RowKit Mem
set_option maxRecDepth 100000

namespace LawFrame
theorem cellsI : Tryz.prog.cellsOf 3 = 1 := by kernel_rfl
theorem cellsW : Tryz.prog.cellsOf 78 = 1 := by kernel_rfl
theorem cellsCl : Tryz.prog.cellsOf 80 = 4 := by kernel_rfl
theorem cellsCe : Tryz.prog.cellsOf 75 = 3 := by kernel_rfl
theorem cellsSCl : Tryz.prog.cellsOf 22 = 1 := by kernel_rfl
theorem cellsSCe : Tryz.prog.cellsOf 76 = 1 := by kernel_rfl
theorem cellsSSCe : Tryz.prog.cellsOf 23 = 1 := by kernel_rfl
theorem cellsSBo : Tryz.prog.cellsOf 24 = 1 := by kernel_rfl
theorem cellsNz : Tryz.prog.cellsOf 26 = 3 := by kernel_rfl
theorem cellsNS : Tryz.prog.cellsOf 28 = 2 := by kernel_rfl
theorem add_plain (b o k : Nat) : (⟨b, o, none⟩ : Addr).add k = ⟨b, o + k, none⟩ := by unfold Addr.add; split <;> simp_all

section
variable {H : Type} {enc : TypeId × Value → H} {W : World}

/-- a slice whose elements are K cells each -/
theorem open_many {α : Type} [Inhabited α] {K : Nat} (h0 : 0 < K) (encK : α → List OC) (hk : ∀ x, (encK x).length = K) {t e : TypeId} (ht : Tryz.prog.underlying t = some (.slice e)) (hc : Tryz.prog.cellsOf e = K)
    {fuel : Nat} {v : Value} {x : DataW H × List MemPlace} (h : DataW.trod enc Tryz.prog W 0 (fun _ => true) true fuel t [v] = some x)
    (each : ∀ (n : Nat) (cs : List Value) (d : DataW H × List MemPlace), DataW.trod enc Tryz.prog W 0 (fun _ => true) true n e cs = some d → ∃ y : α, cs = (encK y).map oV) : ∃ l : List α, RdK K encK W v l := by
  rcases Go.Deep.open_slice ht h with ⟨h1, _⟩ | ⟨a, len, cap, m, n, D, Pl, h1, _, hl, hm, hmm, _, hx⟩
  · cases h1
    exact ⟨[], .inl ⟨none, rfl, rfl⟩⟩
  · cases h1
    simp only [if_true] at hmm
    subst hmm
    rw [hc] at hx
    by_cases hcap : m = 0
    · subst hcap
      obtain rfl : len = 0 := by omega
      exact ⟨[], .inl ⟨some a, rfl, rfl⟩⟩
    · obtain ⟨q, hq⟩ := Go.Deep.choose_lt (α := α) (p := fun i y => ∀ j, j < K → W.cell? (a.add (i * K + j)) = ((encK y)[j]?).map oV) (n := m) (fun i hi => by
        obtain ⟨cs', h1, h2⟩ := hx i hi
        obtain ⟨y, rfl⟩ := each _ _ _ h2
        obtain ⟨_, _, h3⟩ := World.cells?_some h1
        refine ⟨y, fun j hj => ?_⟩
        rw [← Go.Deep.add_add, h3 j hj, List.getElem?_map])
      have hval : ∀ i, i < m * K → W.cell? (a.add i) = some ((((encK (q (i / K)))[i % K]?).map oV).getD undef) := by
        intro i hi
        have h1 := hq (i / K) ((Nat.div_lt_iff_lt_mul h0).2 hi) (i % K) (Nat.mod_lt _ h0)
        rw [Nat.mul_comm, Nat.div_add_mod i K] at h1
        rw [h1]
        have h2 : i % K < (encK (q (i / K))).length := by rw [hk]; exact Nat.mod_lt _ h0
        rw [List.getElem?_eq_getElem h2]
        rfl
      obtain ⟨b, o, rfl, hb, hcc⟩ := addr_of (n := m * K) (Nat.mul_pos (by omega) h0) hval
      refine ⟨(List.range len).map q, .inr ⟨b, o, m, by simp, by simpa using hl, fun i hi j hj => ?_, hb⟩⟩
      have hi' : i < len := by simpa using hi
      simp only [List.getElem_map, List.getElem_range] at hj ⊢
      have h1 := hq i (by omega) j (by rw [hk] at hj; exact hj)
      rw [add_plain, ← Nat.add_assoc] at h1
      exact h1

instance : Inhabited Cl := ⟨⟨0, 0, 0, 0⟩⟩
instance : Inhabited Ce := ⟨⟨0, 0, 0⟩⟩
theorem X_of {n : Int} (h : (Lit.int .u64 n).wf = true) : X (UInt64.ofNat n.toNat) = n := by
  have hb := bounds_u64 h
  unfold X
  rw [UInt64.toNat_ofNat']
  omega
/-- a slice of classes -/
theorem open_classes {fuel : Nat} {v : Value} {x : DataW H × List MemPlace} (h : DataW.trod enc Tryz.prog W 0 (fun _ => true) true fuel 22 [v] = some x) : ∃ l : List Cl, RdK 4 clL W v l := by
  refine open_many (by decide) clL (fun _ => rfl) Tryz.underlying22 cellsCl h fun n cs d hd => ?_
  obtain ⟨xs, m, _, _, hl, hn, hel⟩ := DataW.trod_array Tryz.underlying80 hd
  rw [cellsCl] at hl
  have g : ∀ i, i < 4 → ∃ z : Int, (cs.drop i).take 1 = [.int .u64 z] ∧ (Lit.int .u64 z).wf = true := by
    intro i hi
    have h1 := hel i hi
    rw [cellsW, Nat.mul_one, List.getElem?_eq_getElem (by omega)] at h1
    obtain ⟨z, h2, _, h3⟩ := DataW.trod_int Tryz.underlying78 h1
    exact ⟨z, h2, h3⟩
  match cs, hl with
  | [c0, c1, c2, c3], _ =>
    obtain ⟨z0, e0, w0⟩ := g 0 (by omega)
    obtain ⟨z1, e1, w1⟩ := g 1 (by omega)
    obtain ⟨z2, e2, w2⟩ := g 2 (by omega)
    obtain ⟨z3, e3, w3⟩ := g 3 (by omega)
    cases e0
    cases e1
    cases e2
    cases e3
    refine ⟨⟨UInt64.ofNat z0.toNat, UInt64.ofNat z1.toNat, UInt64.ofNat z2.toNat, UInt64.ofNat z3.toNat⟩, ?_⟩
    show _ = [Value.int .u64 (X _), Value.int .u64 (X _), Value.int .u64 (X _), Value.int .u64 (X _)]
    rw [X_of w0, X_of w1, X_of w2, X_of w3]
/-- a slice of cells -/
theorem open_cells {fuel : Nat} {v : Value} {x : DataW H × List MemPlace} (h : DataW.trod enc Tryz.prog W 0 (fun _ => true) true fuel 76 [v] = some x) : ∃ l : List Ce, RdK 3 ceL W v l := by
  refine open_many (by decide) ceL (fun _ => rfl) Tryz.underlying76 cellsCe h fun n cs d hd => ?_
  obtain ⟨xs, m, _, _, hl, hn, hel⟩ := DataW.trod_struct Tryz.underlying75 hd
  rw [cellsCe] at hl
  have hn3 : xs.length = 3 := hn
  have g0 : DataW.trod enc Tryz.prog W 0 (fun _ => true) true m 3 ((cs.drop 0).take (Tryz.prog.cellsOf 3)) = xs[0]? := hel 0 _ rfl
  have g1 : DataW.trod enc Tryz.prog W 0 (fun _ => true) true m 3 ((cs.drop 1).take (Tryz.prog.cellsOf 3)) = xs[1]? := hel 1 _ rfl
  have g2 : DataW.trod enc Tryz.prog W 0 (fun _ => true) true m 5 ((cs.drop 2).take (Tryz.prog.cellsOf 5)) = xs[2]? := hel 2 _ rfl
  rw [List.getElem?_eq_getElem (by omega)] at g0 g1 g2
  match cs, hl with
  | [c0, c1, c2], _ =>
    simp only [cellsI, cells5, List.drop, List.take] at g0 g1 g2
    obtain ⟨z0, e0, _, _⟩ := DataW.trod_int Tryz.underlying3 g0
    obtain ⟨z1, e1, _, _⟩ := DataW.trod_int Tryz.underlying3 g1
    obtain ⟨z2, e2, _, w2⟩ := DataW.trod_int Tryz.underlying5 g2
    cases e0
    cases e1
    cases e2
    have hb := bounds_u8 w2
    refine ⟨⟨z0, z1, UInt8.ofNat z2.toNat⟩, ?_⟩
    show _ = [Value.int .i64 z0, Value.int .i64 z1, Value.int .u8 ((UInt8.ofNat z2.toNat).toNat : Int)]
    congr 3
    simp
    omega
/-- rows of cells -/
theorem open_rows {fuel : Nat} {v : Value} {x : DataW H × List MemPlace} (h : DataW.trod enc Tryz.prog W 0 (fun _ => true) true fuel 23 [v] = some x) : ∃ l : List (List Ce), RdR W v l := by
  rcases Go.Deep.open_slice1 Tryz.underlying23 cellsSCe h with ⟨h1, _⟩ | ⟨a, len, cap, m, n, V, D, Pl, h1, _, hl, hm, hmm, _, hx⟩
  · cases h1
    exact ⟨[], .inl ⟨none, rfl, rfl⟩⟩
  · cases h1
    simp only [if_true] at hmm
    subst hmm
    by_cases hcap : m = 0
    · subst hcap
      obtain rfl : len = 0 := by omega
      exact ⟨[], .inl ⟨some a, rfl, rfl⟩⟩
    · obtain ⟨q, hq⟩ := Go.Deep.choose_lt (α := List Ce) (p := fun i y => RdK 3 ceL W (V i) y) (n := m) (fun i hi => open_cells (hx i hi).2)
      obtain ⟨b, o, rfl, hb, hcc⟩ := addr_of (n := m) (by omega) (fun i hi => (hx i hi).1)
      refine ⟨(List.range len).map q, .inr ⟨b, o, m, by simp, by simpa using hl, fun i hi => ?_, hb⟩⟩
      have hi' : i < len := by simpa using hi
      simp only [List.getElem_map, List.getElem_range]
      exact ⟨V i, hcc i (by omega), hq i (by omega)⟩
/-- a slice of bools -/
theorem open_ends {fuel : Nat} {v : Value} {x : DataW H × List MemPlace} (h : DataW.trod enc Tryz.prog W 0 (fun _ => true) true fuel 24 [v] = some x) : ∃ l : List Bool, Rd Value.bool W v l := by
  rcases Go.Deep.open_bools Tryz.underlying24 Tryz.underlying4 cells4 h with ⟨h1, _⟩ | ⟨a, len, cap, B, h1, _, hl, hm, _, hx⟩
  · cases h1
    exact ⟨[], .inl ⟨none, rfl, rfl⟩⟩
  · cases h1
    by_cases hcap : cap = 0
    · subst hcap
      obtain rfl : len = 0 := by omega
      exact ⟨[], .inl ⟨some a, rfl, rfl⟩⟩
    · obtain ⟨b, o, rfl, hb, hcc⟩ := addr_of (n := cap) (by omega) hx
      refine ⟨(List.range len).map B, .inr ⟨b, o, cap, by simp, by simpa using hl, fun i hi => ?_, hb⟩⟩
      have hi' : i < len := by simpa using hi
      rw [hcc i (by omega), List.getElem?_eq_getElem hi]
      simp
/-- a normalizer -/
theorem open_norm {base : Nat} {v : Value} {d : DataW H} {p : List MemPlace} (hval : Value.okWide Tryz.prog W .any base 26 v) (h : DataW.Trod enc Tryz.prog W 0 (fun _ => true) true 26 v d p) :
    ∃ (N : NZ) (pc pr pe : Option Addr) (kc kr ke : Nat), v = .agg #[.slice pc N.cls.length kc, .slice pr N.rows.length kr, .slice pe N.ends.length ke] ∧ NzAt W v N := by
  unfold Value.okWide at hval
  rw [Tryz.underlying26] at hval
  obtain ⟨cs, rfl, _, _⟩ := hval
  obtain ⟨fuel, hf⟩ := h
  obtain ⟨xs, m, _, _, hl, hn, hel⟩ := DataW.trod_struct Tryz.underlying26 hf
  obtain ⟨cs⟩ := cs
  have hl3 : cs.length = 3 := by rw [← cellsNz]; exact hl
  have hn3 : xs.length = 3 := hn
  have g0 : DataW.trod enc Tryz.prog W 0 (fun _ => true) true m 22 ((cs.drop 0).take (Tryz.prog.cellsOf 22)) = xs[0]? := hel 0 _ rfl
  have g1 : DataW.trod enc Tryz.prog W 0 (fun _ => true) true m 23 ((cs.drop 1).take (Tryz.prog.cellsOf 23)) = xs[1]? := hel 1 _ rfl
  have g2 : DataW.trod enc Tryz.prog W 0 (fun _ => true) true m 24 ((cs.drop 2).take (Tryz.prog.cellsOf 24)) = xs[2]? := hel 2 _ rfl
  rw [List.getElem?_eq_getElem (by omega)] at g0 g1 g2
  match cs, hl3 with
  | [c0, c1, c2], _ =>
    simp only [cellsSCl, cellsSSCe, cellsSBo, List.drop, List.take] at g0 g1 g2
    obtain ⟨lc, hc⟩ := open_classes g0
    obtain ⟨lr, hr⟩ := open_rows g1
    obtain ⟨le, he⟩ := open_ends g2
    obtain ⟨pc, kc, rfl⟩ := hc.slice
    obtain ⟨pr, kr, rfl⟩ := hr.slice
    obtain ⟨pe, ke, rfl⟩ := he.slice
    exact ⟨⟨lc, lr, le⟩, pc, pr, pe, kc, kr, ke, rfl, _, _, _, rfl, hc, hr, he⟩
/-- a state -/
theorem open_state {base : Nat} {v : Value} {d : DataW H} {p : List MemPlace} (hval : Value.okWide Tryz.prog W .any base 28 v) (h : DataW.Trod enc Tryz.prog W 0 (fun _ => true) true 28 v d p) :
    ∃ (a : Int) (r : Bool), v = .agg #[.int .i64 a, .bool r] := by
  unfold Value.okWide at hval
  rw [Tryz.underlying28] at hval
  obtain ⟨cs, rfl, _, _⟩ := hval
  obtain ⟨fuel, hf⟩ := h
  obtain ⟨xs, m, _, _, hl, hn, hel⟩ := DataW.trod_struct Tryz.underlying28 hf
  obtain ⟨cs⟩ := cs
  have hl2 : cs.length = 2 := by rw [← cellsNS]; exact hl
  have hn2 : xs.length = 2 := hn
  have g0 : DataW.trod enc Tryz.prog W 0 (fun _ => true) true m 3 ((cs.drop 0).take (Tryz.prog.cellsOf 3)) = xs[0]? := hel 0 _ rfl
  have g1 : DataW.trod enc Tryz.prog W 0 (fun _ => true) true m 4 ((cs.drop 1).take (Tryz.prog.cellsOf 4)) = xs[1]? := hel 1 _ rfl
  rw [List.getElem?_eq_getElem (by omega)] at g0 g1
  match cs, hl2 with
  | [c0, c1], _ =>
    simp only [cellsI, cells4, List.drop, List.take] at g0 g1
    obtain ⟨z0, e0, _, _⟩ := DataW.trod_int Tryz.underlying3 g0
    obtain ⟨b, e1, _⟩ := DataW.trod_bool Tryz.underlying4 g1
    cases e0
    cases e1
    exact ⟨z0, b, rfl⟩
end
end LawFrame
end Go.Proofs.YtgflelodpcgmbaaGreatDoor
