/- Normalizers in memory; which cells are bad. -/
import Derived.Test.YtgflelodpcgmbaaGreatDoorMUnion
namespace Go.Proofs.YtgflelodpcgmbaaGreatDoor
open Go Go.RowKit Mem
set_option maxRecDepth 100000

/-- a cell of a normalizer -/
structure Ce where
  tgt : Int
  act : Int
  b : UInt8
deriving DecidableEq
abbrev ceA (c : Ce) : Array Value := #[.int .i64 c.tgt, .int .i64 c.act, .int .u8 (c.b.toNat : Int)]
def ceL (c : Ce) : List OC := [oi c.tgt, oi c.act, ⟨.int .u8 (c.b.toNat : Int), rfl⟩]
theorem aggCe : AggT Tryz.prog 75 3 := ⟨fun _ => by kernel_rfl, fun _ => by kernel_rfl⟩
/-- a normalizer -/
structure NZ where
  cls : List Cl
  rows : List (List Ce)
  ends : List Bool
/-- v reads as rows of cells -/
def RdR (w : World) (v : Value) (l : List (List Ce)) : Prop :=
  (∃ p, v = .slice p 0 0 ∧ l = []) ∨ ∃ b o cap, v = .slice (some ⟨b, o, none⟩) l.length cap ∧ l.length ≤ cap ∧ (∀ i (h : i < l.length), ∃ u, w.cell? ⟨b, o + i, none⟩ = some u ∧ RdK 3 ceL w u l[i]) ∧ b < w.heap.size
theorem RdR.slice {w : World} {v : Value} {l : List (List Ce)} (h : RdR w v l) : ∃ p cap, v = .slice p l.length cap := by
  rcases h with ⟨p, rfl, rfl⟩ | ⟨b, o, cap, rfl, _⟩
  · exact ⟨p, 0, rfl⟩
  · exact ⟨_, _, rfl⟩
theorem RdR.below {w w' : World} {v : Value} {l : List (List Ce)} (h : RdR w v l) (hb : Below w.heap.size w w') : RdR w' v l := by
  rcases h with hn | ⟨b, o, cap, rfl, hc, ha, hlt⟩
  · exact .inl hn
  · refine .inr ⟨b, o, cap, rfl, hc, fun i hi => ?_, Nat.lt_of_lt_of_le hlt hb.size⟩
    obtain ⟨u, h1, h2⟩ := ha i hi
    exact ⟨u, (hb.cell (p := ⟨b, o + i, none⟩) hlt).trans h1, h2.below hb⟩
theorem RdR.elem {w : World} {p : Option Addr} {n c : Nat} {l : List (List Ce)} (h : RdR w (.slice p n c) l) (k : Nat) (hk : k < l.length) : ∃ b o u, p = some ⟨b, o, none⟩ ∧ w.cell? ⟨b, o + k, none⟩ = some u ∧ RdK 3 ceL w u l[k] ∧ l.length ≤ c ∧ b < w.heap.size := by
  rcases h with ⟨_, _, rfl⟩ | ⟨b, o, cap, h1, hc, ha, hlt⟩
  · simp at hk
  · cases h1
    obtain ⟨u, h1, h2⟩ := ha k hk
    exact ⟨b, o, u, rfl, h1, h2, hc, hlt⟩
/-- v is a normalizer that reads as N -/
def NzAt (w : World) (v : Value) (N : NZ) : Prop := ∃ vc vr ve, v = .agg #[vc, vr, ve] ∧ RdK 4 clL w vc N.cls ∧ RdR w vr N.rows ∧ Rd Value.bool w ve N.ends
theorem NzAt.below {w w' : World} {v : Value} {N : NZ} (h : NzAt w v N) (hb : Below w.heap.size w w') : NzAt w' v N := by
  obtain ⟨vc, vr, ve, rfl, h1, h2, h3⟩ := h
  exact ⟨vc, vr, ve, rfl, h1.below hb, h2.below hb, h3.below hb⟩

/-- a cell that no valid normalizer of n states has -/
def Ce.bad (n : Nat) (c : Ce) : Bool := decide (c.tgt < 0 ∨ (n : Int) ≤ c.tgt ∨ c.act < 0 ∨ 3 < c.act ∨ c.act ≠ 2 ∧ (c.b.toNat : Int) ≠ 0)

set_option maxHeartbeats 4000000 in
theorem cellBad (w : World) (c : Ce) (nb n cr : Nat) (pr : Option Addr) (hr : w.cell? ⟨nb, 1, none⟩ = some (.slice pr n cr)) (hl : nb < w.heap.size) :
    Calls Tryz.prog 37 #[.agg (ceA c), .pointer (some ⟨nb, 0, none⟩)] w fun e w' => e = .returned (.bool (c.bad n)) ∧ Below w.heap.size w w' := by
  have hB : Below w.heap.size w (w.alloc (.cells (ceA c) 75)) := (Below.refl _ _).alloc (Nat.le_refl _) _
  have hrow : Row oV (w.alloc (.cells (ceA c) 75)) w.heap.size 75 (ceL c) := Row.new _ _ rfl
  have hc : (w.alloc (.cells (ceA c) 75)).cell? ⟨nb, 1, none⟩ = some (.slice pr n cr) := (hB.cell (p := ⟨nb, 1, none⟩) hl).trans hr
  have c0 : (w.alloc (.cells (ceA c) 75)).cell? ⟨w.heap.size, 0, none⟩ = some (.int .i64 c.tgt) := by rw [hrow.cell?]; rfl
  have c1 : (w.alloc (.cells (ceA c) 75)).cell? ⟨w.heap.size, 1, none⟩ = some (.int .i64 c.act) := by rw [hrow.cell?]; rfl
  have c2 : (w.alloc (.cells (ceA c) 75)).cell? ⟨w.heap.size, 2, none⟩ = some (.int .u8 (c.b.toNat : Int)) := by rw [hrow.cell?]; rfl
  clear hrow
  go_enter Tryz.func37, Tryz.ntmps37
  go_upto_region 1 with (fail)
  generalize (w.alloc (.cells (ceA c) 75)) = W at hB hc c0 c1 c2 ⊢
  by_cases h1 : c.tgt < 0
  · have hv : c.bad n = true := decide_eq_true (by omega)
    go_wp2
    go_ret
    exact ⟨by first | rfl | (rw [hv]; rfl), hB⟩
  by_cases h2 : (n : Int) ≤ c.tgt
  · have hv : c.bad n = true := decide_eq_true (by omega)
    go_wp2
    go_ret
    exact ⟨by first | rfl | (rw [hv]; rfl), hB⟩
  by_cases h3 : c.act < 0
  · have hv : c.bad n = true := decide_eq_true (by omega)
    go_wp2
    go_ret
    exact ⟨by first | rfl | (rw [hv]; rfl), hB⟩
  by_cases h4 : 3 < c.act
  · have hv : c.bad n = true := decide_eq_true (by omega)
    go_wp2
    go_ret
    exact ⟨by first | rfl | (rw [hv]; rfl), hB⟩
  by_cases h5 : c.act = 2
  · have hv : c.bad n = false := decide_eq_false (by omega)
    go_wp2
    go_ret
    exact ⟨by first | rfl | (rw [hv]; rfl), hB⟩
  have h5' : (c.act != 2) = true := by simpa using h5
  by_cases h6 : (c.b.toNat : Int) = 0
  · have hv : c.bad n = false := decide_eq_false (by omega)
    go_wp2
    go_ret
    exact ⟨by first | rfl | simp [h6] | (rw [hv]; simp [h6]), hB⟩
  · have h6' : ((c.b.toNat : Int) != 0) = true := by simpa using h6
    have hv : c.bad n = true := decide_eq_true (by omega)
    go_wp2
    go_ret
    exact ⟨by first | rfl | simp [h5', h6'] | (rw [hv]; simp [h5', h6']), hB⟩
end Go.Proofs.YtgflelodpcgmbaaGreatDoor
/- slices.ContainsFunc over the cells of a row. -/
namespace Go.Proofs.YtgflelodpcgmbaaGreatDoor
open Go Go.RowKit Mem
set_option maxRecDepth 100000

set_option maxHeartbeats 4000000 in
theorem cellIndex (w : World) (v : Value) (l : List Ce) (nb n cr : Nat) (pr : Option Addr) (hv : RdK 3 ceL w v l) (hr : w.cell? ⟨nb, 1, none⟩ = some (.slice pr n cr)) (hl : nb < w.heap.size) (hn : l.length ≤ 4294967296) :
    Calls Tryz.prog 71 #[v, .func (.func 37) #[] #[.pointer (some ⟨nb, 0, none⟩)]] w fun e w' => ∃ i : Int, e = .returned (.int .i64 i) ∧ Hid (decide (0 ≤ i) = l.any (·.bad n)) ∧ Below w.heap.size w w' := by
  have HV := Lib.hid hv
  have HR := Lib.hid hr
  obtain ⟨p, cp, rfl⟩ := hv.slice
  clear hv hr
  go_enter Tryz.func71, Tryz.ntmps71
  go_wp2_with fail
  go_loopw [8] (fun i wr => ∃ (k : Nat), k ≤ l.length ∧ i = .int .i64 k ∧ (∀ j (h : j < l.length), j < k → l[j].bad n = false) ∧ Below w.heap.size w wr) (fun i _ => l.length - (intOf i).toNat)
  case atStart => exact ⟨0, by omega, rfl, fun j h hj => by omega, Below.refl _ _⟩
  case round =>
    obtain ⟨k, hk, rfl, hno, hB⟩ := hrel
    have HNO := Lib.hid hno
    clear hno
    by_cases hlt : k < l.length
    · obtain ⟨bb, bo, rfl, hA, hcap, hbl⟩ := HV.out.elem k hlt
      have hA2 := hA.below hB hbl
      have hq : (k : Int) < (l.length : Int) := by omega
      clear hA
      go_wp2_with (first
        | ((with_reducible refine load_agg (f := oV) (l := ceL l[k]) (C := ceA l[k]) aggCe (.tmp 14) ?_ ?_ bb (bo + k * 3) ?_ hA2 rfl ?_); rfl; rfl; rfl))
      refine (cellBad wr l[k] nb n cr pr ((hB.cell (p := ⟨nb, 1, none⟩) hl).trans HR.out) (Nat.lt_of_lt_of_le hl hB.size)).mono ?_
      rintro e w2 ⟨rfl, hB2⟩
      replace hB := hB.trans (hB2.mono hB.size)
      clear hA2 hB2
      cases hh : l[k].bad n with
      | true =>
        have hi : Hid (decide ((0 : Int) ≤ (k : Int)) = l.any (·.bad n)) := Lib.hid (by
          rw [decide_eq_true (by omega)]
          exact (List.any_eq_true.2 ⟨l[k], List.getElem_mem hlt, hh⟩).symm)
        go_wp2
        go_ret
        exact ⟨_, rfl, hi, hB⟩
      | false =>
        go_wp2_with fail
        go_roundw
        case rel =>
          refine ⟨k + 1, by omega, by go_num, fun j h hj => ?_, hB⟩
          rcases Nat.lt_or_ge j k with h1 | h1
          · exact HNO.out j h h1
          · obtain rfl : j = k := by omega
            exact hh
        case measure => simp [intOf]; omega
    · have hi : Hid (decide ((0 : Int) ≤ -1) = l.any (·.bad n)) := Lib.hid (by
        rw [decide_eq_false (by omega)]
        symm
        rw [List.any_eq_false]
        intro x hx
        obtain ⟨j, hj, rfl⟩ := List.getElem_of_mem hx
        rw [HNO.out j hj (by omega)]
        decide)
      have hq : ¬ (k : Int) < (l.length : Int) := by omega
      go_wp2
      go_ret
      exact ⟨_, rfl, hi, hB⟩

theorem cellsBad (w : World) (v : Value) (l : List Ce) (nb n cr : Nat) (pr : Option Addr) (hv : RdK 3 ceL w v l) (hr : w.cell? ⟨nb, 1, none⟩ = some (.slice pr n cr)) (hl : nb < w.heap.size) (hn : l.length ≤ 4294967296) :
    Calls Tryz.prog 36 #[v, .func (.func 37) #[] #[.pointer (some ⟨nb, 0, none⟩)]] w fun e w' => e = .returned (.bool (l.any (·.bad n))) ∧ Below w.heap.size w w' := by
  have hc := cellIndex w v l nb n cr pr hv hr hl hn
  obtain ⟨p, cp, rfl⟩ := hv.slice
  clear hv hr
  go_enter Tryz.func36, Tryz.ntmps36
  go_wp2_with fail
  refine hc.mono ?_
  rintro e W2 ⟨i, rfl, hi, hB2⟩
  go_wp2
  go_ret
  exact ⟨by rw [← hi.out]; rfl, hB2⟩
end Go.Proofs.YtgflelodpcgmbaaGreatDoor
