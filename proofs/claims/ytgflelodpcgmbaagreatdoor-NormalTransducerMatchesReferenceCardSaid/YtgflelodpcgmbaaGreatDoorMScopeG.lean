/- Scopes of every kind: checkScope, ScopeValid, ScopeSize, and Refusals of both kinds. -/
import Derived.Test.YtgflelodpcgmbaaGreatDoorMWordsF
import Derived.Test.YtgflelodpcgmbaaGreatDoorMRFeed
import Derived.Test.YtgflelodpcgmbaaGreatDoorMScP
namespace Go.Proofs.YtgflelodpcgmbaaGreatDoor
open Go Go.RowKit Mem
set_option maxRecDepth 100000

/-- a scope as both take it -/
def ScOk (al : List UInt8) (most : Int) : Prop := (1 ≤ al.length ∧ al.length ≤ 4) ∧ (0 ≤ most ∧ most ≤ 8) ∧ ∀ i (h : i + 1 < al.length), al[i].toNat < al[i + 1].toNat

set_option maxHeartbeats 8000000 in
theorem nCheckBad (w : World) (va : Value) (al : List UInt8) (most : Int) (hva : Rd u8V w va al) (hno : ¬ ScOk al most) :
    Calls Tryz.prog 44 #[.agg #[va, .int .i64 most]] w fun e w' => e = .returned (.int .i64 1) ∧ Below w.heap.size w w' := by
  have HVA := Lib.hid hva
  obtain ⟨pa, ca, rfl⟩ := hva.slice
  clear hva
  go_enter Tryz.func44, Tryz.ntmps44
  go_upto_region 1 with (fail)
  obtain ⟨W, hW, hB, hs, g0⟩ : ∃ W, (w.alloc (.cells #[.slice pa al.length ca, .int .i64 most] 42)) = W ∧ Below w.heap.size w W ∧ w.heap.size + 1 ≤ W.heap.size ∧ W.heap[w.heap.size]? = some (.cells #[.slice pa al.length ca, .int .i64 most] 42 (0, 0)) :=
    ⟨_, rfl, below_al (Below.refl _ _) (Nat.le_refl _) _, by simp, World.alloc_heap_new _ _⟩
  rw [hW]
  clear hW
  have HC : Hid (∀ X, Below W.heap.size W X → X.cell? ⟨w.heap.size, 0, none⟩ = some (.slice pa al.length ca) ∧ X.cell? ⟨w.heap.size, 1, none⟩ = some (.int .i64 most) ∧ Rd u8V X (.slice pa al.length ca) al ∧ Below w.heap.size w X) := Lib.hid fun X hX => by
    have h := (hX.block w.heap.size (by omega)).trans g0
    have hw := hB.trans (hX.mono hB.size)
    refine ⟨?_, ?_, HVA.out.below hw, hw⟩ <;> (unfold World.cell?; rw [h]; rfl)
  clear g0 HVA hB hs
  obtain ⟨c0, c1, _, hw⟩ := HC.out W (Below.refl _ _)
  by_cases q1 : (al.length : Int) < 1
  · have bq1 : decide ((al.length : Int) < 1) = true := decide_eq_true q1
    go_wp2
    go_ret
    exact ⟨rfl, hw⟩
  have bq1 : decide ((al.length : Int) < 1) = false := decide_eq_false q1
  by_cases q2 : (4 : Int) < (al.length : Int)
  · have bq2 : decide ((4 : Int) < (al.length : Int)) = true := decide_eq_true q2
    go_wp2
    go_ret
    exact ⟨rfl, hw⟩
  have bq2 : decide ((4 : Int) < (al.length : Int)) = false := decide_eq_false q2
  by_cases q3 : most < 0
  · have bq3 : decide (most < 0) = true := decide_eq_true q3
    go_wp2
    go_ret
    exact ⟨rfl, hw⟩
  have bq3 : decide (most < 0) = false := decide_eq_false q3
  by_cases q4 : 8 < most
  · have bq4 : decide (8 < most) = true := decide_eq_true q4
    go_wp2
    go_ret
    exact ⟨rfl, hw⟩
  have bq4 : decide (8 < most) = false := decide_eq_false q4
  have ha : 1 ≤ al.length ∧ al.length ≤ 4 := by omega
  have hm : 0 ≤ most ∧ most ≤ 8 := by omega
  go_wp2_with fail
  clear c0 c1 hw bq1 bq2 bq3 bq4 q1 q2 q3 q4
  go_loopw [4] (fun i wr => ∃ (k : Nat), 1 ≤ k ∧ k ≤ al.length ∧ i = .int .i64 k ∧ Below W.heap.size W wr ∧ Hid (∀ i (h : i + 1 < al.length), i + 1 < k → al[i].toNat < al[i + 1].toNat)) (fun i _ => al.length - (intOf i).toNat)
  case atStart => exact ⟨1, by omega, ha.1, rfl, Below.refl _ _, Lib.hid (fun i h h2 => by omega)⟩
  case round =>
    obtain ⟨k, hk1, hk, rfl, hX, HI⟩ := hrel
    obtain ⟨c0, c1, hA, hw⟩ := HC.out _ hX
    by_cases hlt : k < al.length
    · have hq : (k : Int) < (al.length : Int) := by omega
      obtain ⟨j, rfl⟩ : ∃ j, k = j + 1 := ⟨k - 1, by omega⟩
      obtain ⟨ba, oa, rfl, hat⟩ : ∃ b o, pa = some ⟨b, o, none⟩ ∧ At u8V wr b o al := by
        rcases hA with ⟨_, _, h0⟩ | ⟨b, o, cap, h1, _, ha', hl⟩
        · rw [h0] at hlt; simp at hlt
        · cases h1; exact ⟨b, o, rfl, ha'⟩
      have ca1 : wr.cell? ⟨ba, oa + j, none⟩ = some (.int .u8 (al[j].toNat : Int)) := (hat j (by omega)).trans (by rw [List.getElem?_eq_getElem (by omega)]; rfl)
      have ca2 : wr.cell? ⟨ba, oa + (j + 1), none⟩ = some (.int .u8 (al[j + 1].toNat : Int)) := (hat (j + 1) hlt).trans (by rw [List.getElem?_eq_getElem hlt]; rfl)
      have hqj : (j : Int) < (al.length : Int) := by omega
      clear hA hat
      by_cases hlt2 : al[j].toNat < al[j + 1].toNat
      · have HI2 : Hid (∀ i (h : i + 1 < al.length), i + 1 < j + 1 + 1 → al[i].toNat < al[i + 1].toNat) := Lib.hid fun i h h2 => by
          rcases Nat.lt_or_ge i j with h3 | h3
          · exact HI.out i h (by omega)
          · obtain rfl : i = j := by omega
            exact hlt2
        generalize al[j + 1].toNat = y2 at *
        generalize al[j].toNat = y1 at *
        have hq5 : ¬ ((y2 : Nat) : Int) ≤ ((y1 : Nat) : Int) := by omega
        go_upto_region 7 with (fail)
        go_region
        go_wp2_with fail
        go_roundw
        case rel => exact ⟨j + 1 + 1, by omega, by omega, by go_num, hX.drew, HI2⟩
        case measure => simp [intOf]; omega
      · have hbad : Hid (¬ ScOk al most) := Lib.hid (fun h => hlt2 (h.2.2 j hlt))
        generalize al[j + 1].toNat = y2 at *
        generalize al[j].toNat = y1 at *
        have hq5 : ((y2 : Nat) : Int) ≤ ((y1 : Nat) : Int) := by omega
        have hwd := hw.drew
        go_upto_region 7 with (fail)
        go_region
        go_wp2
        go_ret
        exact ⟨rfl, hwd⟩
    · have hke : k = al.length := by omega
      have hq : ¬ (k : Int) < (al.length : Int) := by omega
      have hok : ScOk al most := ⟨ha, hm, fun i h => HI.out i h (by omega)⟩
      exact (hno hok).elim

/-- a verdict on a scope -/
def ScV (al : List UInt8) (most : Int) (e : Ending) : Prop := ∃ v : Bool, e = .returned (.bool v) ∧ (v = true ↔ ScOk al most)

set_option maxHeartbeats 8000000 in
theorem rScopeValid (w : World) (va : Value) (al : List UInt8) (most : Int) (hva : Rd u8V w va al) :
    Calls Tryz.prog 49 #[.agg #[va, .int .i64 most]] w fun e w' => ScV al most e ∧ Below w.heap.size w w' := by
  have HVA := Lib.hid hva
  obtain ⟨pa, ca, rfl⟩ := hva.slice
  clear hva
  go_enter Tryz.func49, Tryz.ntmps49
  go_upto_region 1 with (fail)
  obtain ⟨W, hW, hB, hs, g0⟩ : ∃ W, (w.alloc (.cells #[.slice pa al.length ca, .int .i64 most] 42)) = W ∧ Below w.heap.size w W ∧ w.heap.size + 1 ≤ W.heap.size ∧ W.heap[w.heap.size]? = some (.cells #[.slice pa al.length ca, .int .i64 most] 42 (0, 0)) :=
    ⟨_, rfl, below_al (Below.refl _ _) (Nat.le_refl _) _, by simp, World.alloc_heap_new _ _⟩
  rw [hW]
  clear hW
  have HC : Hid (∀ X, Below W.heap.size W X → X.cell? ⟨w.heap.size, 0, none⟩ = some (.slice pa al.length ca) ∧ X.cell? ⟨w.heap.size, 1, none⟩ = some (.int .i64 most) ∧ Rd u8V X (.slice pa al.length ca) al ∧ Below w.heap.size w X) := Lib.hid fun X hX => by
    have h := (hX.block w.heap.size (by omega)).trans g0
    have hw := hB.trans (hX.mono hB.size)
    refine ⟨?_, ?_, HVA.out.below hw, hw⟩ <;> (unfold World.cell?; rw [h]; rfl)
  clear g0 HVA hB hs
  obtain ⟨c0, c1, _, hw⟩ := HC.out W (Below.refl _ _)
  by_cases q1 : (al.length : Int) < 1
  · have bq1 : decide ((al.length : Int) < 1) = true := decide_eq_true q1
    have hbad : Hid (¬ ScOk al most) := Lib.hid (fun h => by have h1 := h.1; have h2 := h.2.1; omega)
    go_wp2
    go_ret
    exact ⟨⟨false, rfl, by simp [hbad.out]⟩, hw⟩
  have bq1 : decide ((al.length : Int) < 1) = false := decide_eq_false q1
  by_cases q2 : (4 : Int) < (al.length : Int)
  · have bq2 : decide ((4 : Int) < (al.length : Int)) = true := decide_eq_true q2
    have hbad : Hid (¬ ScOk al most) := Lib.hid (fun h => by have h1 := h.1; have h2 := h.2.1; omega)
    go_wp2
    go_ret
    exact ⟨⟨false, rfl, by simp [hbad.out]⟩, hw⟩
  have bq2 : decide ((4 : Int) < (al.length : Int)) = false := decide_eq_false q2
  by_cases q3 : most < 0
  · have bq3 : decide (most < 0) = true := decide_eq_true q3
    have hbad : Hid (¬ ScOk al most) := Lib.hid (fun h => by have h1 := h.1; have h2 := h.2.1; omega)
    go_wp2
    go_ret
    exact ⟨⟨false, rfl, by simp [hbad.out]⟩, hw⟩
  have bq3 : decide (most < 0) = false := decide_eq_false q3
  by_cases q4 : 8 < most
  · have bq4 : decide (8 < most) = true := decide_eq_true q4
    have hbad : Hid (¬ ScOk al most) := Lib.hid (fun h => by have h1 := h.1; have h2 := h.2.1; omega)
    go_wp2
    go_ret
    exact ⟨⟨false, rfl, by simp [hbad.out]⟩, hw⟩
  have bq4 : decide (8 < most) = false := decide_eq_false q4
  have ha : 1 ≤ al.length ∧ al.length ≤ 4 := by omega
  have hm : 0 ≤ most ∧ most ≤ 8 := by omega
  go_wp2_with fail
  clear c0 c1 hw bq1 bq2 bq3 bq4 q1 q2 q3 q4
  go_loopw [3] (fun i wr => ∃ (k : Nat), 1 ≤ k ∧ k ≤ al.length ∧ i = .int .i64 k ∧ Below W.heap.size W wr ∧ Hid (∀ i (h : i + 1 < al.length), i + 1 < k → al[i].toNat < al[i + 1].toNat)) (fun i _ => al.length - (intOf i).toNat)
  case atStart => exact ⟨1, by omega, ha.1, rfl, Below.refl _ _, Lib.hid (fun i h h2 => by omega)⟩
  case round =>
    obtain ⟨k, hk1, hk, rfl, hX, HI⟩ := hrel
    obtain ⟨c0, c1, hA, hw⟩ := HC.out _ hX
    by_cases hlt : k < al.length
    · have hq : (k : Int) < (al.length : Int) := by omega
      obtain ⟨j, rfl⟩ : ∃ j, k = j + 1 := ⟨k - 1, by omega⟩
      obtain ⟨ba, oa, rfl, hat⟩ : ∃ b o, pa = some ⟨b, o, none⟩ ∧ At u8V wr b o al := by
        rcases hA with ⟨_, _, h0⟩ | ⟨b, o, cap, h1, _, ha', hl⟩
        · rw [h0] at hlt; simp at hlt
        · cases h1; exact ⟨b, o, rfl, ha'⟩
      have ca1 : wr.cell? ⟨ba, oa + j, none⟩ = some (.int .u8 (al[j].toNat : Int)) := (hat j (by omega)).trans (by rw [List.getElem?_eq_getElem (by omega)]; rfl)
      have ca2 : wr.cell? ⟨ba, oa + (j + 1), none⟩ = some (.int .u8 (al[j + 1].toNat : Int)) := (hat (j + 1) hlt).trans (by rw [List.getElem?_eq_getElem hlt]; rfl)
      have hqj : (j : Int) < (al.length : Int) := by omega
      clear hA hat
      by_cases hlt2 : al[j].toNat < al[j + 1].toNat
      · have HI2 : Hid (∀ i (h : i + 1 < al.length), i + 1 < j + 1 + 1 → al[i].toNat < al[i + 1].toNat) := Lib.hid fun i h h2 => by
          rcases Nat.lt_or_ge i j with h3 | h3
          · exact HI.out i h (by omega)
          · obtain rfl : i = j := by omega
            exact hlt2
        generalize al[j + 1].toNat = y2 at *
        generalize al[j].toNat = y1 at *
        have hq5 : ¬ ((y2 : Nat) : Int) ≤ ((y1 : Nat) : Int) := by omega
        go_upto_region 6 with (fail)
        go_region
        go_wp2_with fail
        go_roundw
        case rel => exact ⟨j + 1 + 1, by omega, by omega, by go_num, hX.drew, HI2⟩
        case measure => simp [intOf]; omega
      · have hbad : Hid (¬ ScOk al most) := Lib.hid (fun h => hlt2 (h.2.2 j hlt))
        generalize al[j + 1].toNat = y2 at *
        generalize al[j].toNat = y1 at *
        have hq5 : ((y2 : Nat) : Int) ≤ ((y1 : Nat) : Int) := by omega
        have hwd := hw.drew
        go_upto_region 6 with (fail)
        go_region
        go_wp2
        go_ret
        exact ⟨⟨false, rfl, by simp [hbad.out]⟩, hwd⟩
    · have hke : k = al.length := by omega
      have hq : ¬ (k : Int) < (al.length : Int) := by omega
      have hok : ScOk al most := ⟨ha, hm, fun i h => HI.out i h (by omega)⟩
      replace hok := Lib.hid hok
      clear HI hA
      go_wp2
      go_ret
      exact ⟨⟨true, rfl, by simp [hok.out]⟩, hw⟩

set_option maxHeartbeats 8000000 in
theorem rScopeSize (w : World) (va : Value) (al : List UInt8) (most : Nat) (hva : Rd u8V w va al) (ha : al.length ≤ 4) (hm : most ≤ 8) :
    Calls Tryz.prog 50 #[.agg #[va, .int .i64 most]] w fun e w' => e = .returned (.int .i64 ((Sc.upTo al (most + 1)).length : Nat)) ∧ Below w.heap.size w w' := by
  have HVA := Lib.hid hva
  obtain ⟨pa, ca, rfl⟩ := hva.slice
  clear hva
  go_enter Tryz.func50, Tryz.ntmps50
  go_upto_region 1 with (fail)
  obtain ⟨W, hW, hB, hs, g0⟩ : ∃ W, (w.alloc (.cells #[.slice pa al.length ca, .int .i64 (most : Int)] 42)) = W ∧ Below w.heap.size w W ∧ w.heap.size + 1 ≤ W.heap.size ∧ W.heap[w.heap.size]? = some (.cells #[.slice pa al.length ca, .int .i64 (most : Int)] 42 (0, 0)) :=
    ⟨_, rfl, below_al (Below.refl _ _) (Nat.le_refl _) _, by simp, World.alloc_heap_new _ _⟩
  rw [hW]
  clear hW
  have HC : Hid (∀ X, Below W.heap.size W X → X.cell? ⟨w.heap.size, 0, none⟩ = some (.slice pa al.length ca) ∧ X.cell? ⟨w.heap.size, 1, none⟩ = some (.int .i64 most) ∧ Rd u8V X (.slice pa al.length ca) al ∧ Below w.heap.size w X) := Lib.hid fun X hX => by
    have h := (hX.block w.heap.size (by omega)).trans g0
    have hw := hB.trans (hX.mono hB.size)
    refine ⟨?_, ?_, HVA.out.below hw, hw⟩ <;> (unfold World.cell?; rw [h]; rfl)
  clear g0 HVA hB hs
  go_upto_region 4 with (fail)
  go_loopw [3, 4, 5] (fun x y i wr => ∃ (j : Nat), j ≤ most + 1 ∧ i = .int .i64 j ∧ x = .int .i64 ((Sc.upTo al j).length : Nat) ∧ y = .int .i64 ((Sc.lvl al j).length : Nat) ∧ Below W.heap.size W wr) (fun _ _ i _ => most + 1 - (intOf i).toNat)
  case atStart => exact ⟨0, by omega, rfl, rfl, rfl, Below.refl _ _⟩
  case round =>
    obtain ⟨j, hj, rfl, rfl, rfl, hX⟩ := hrel
    obtain ⟨c0, c1, _, hw⟩ := HC.out _ hX
    by_cases hjl : j < most + 1
    · have hq2 : (j : Int) ≤ (most : Int) := by omega
      have w1 : wrap64 (((Sc.upTo al j).length : Int) + ((Sc.lvl al j).length : Int)) = ((Sc.upTo al (j + 1)).length : Int) := by
        have h1 := upTo_len al j ha (by omega)
        have h2 := Sc.lvl_le al j ha (by omega)
        rw [Sc.upTo_succ, List.length_append]
        unfold wrap64
        omega
      have w2 : wrap64 (((Sc.lvl al j).length : Int) * (al.length : Int)) = ((Sc.lvl al (j + 1)).length : Int) := by
        have h2 := Sc.lvl_le al j ha (by omega)
        have h3 : (Sc.lvl al (j + 1)).length = (Sc.lvl al j).length * al.length := Sc.next_len al _
        have h4 : (Sc.lvl al j).length * al.length ≤ 262144 * 4 := Nat.mul_le_mul h2 ha
        have h8 : ((Sc.lvl al j).length : Int) * (al.length : Int) = (((Sc.lvl al j).length * al.length : Nat) : Int) := by simp
        rw [h8, h3]
        generalize (Sc.lvl al j).length * al.length = M at h4 ⊢
        unfold wrap64
        omega
      go_wp2_with fail
      go_roundw
      case rel => exact ⟨j + 1, by omega, by go_num, by first | rfl | rw [w1], by first | rfl | rw [w2], hX⟩
      case measure => simp [intOf]; omega
    · have hjj : j = most + 1 := by omega
      have hq2 : ¬ (j : Int) ≤ (most : Int) := by omega
      rw [hjj]
      replace hjj := Lib.hid hjj
      go_wp2_with fail
      go_ret
      exact ⟨rfl, hw⟩

open Classical in
/-- what Refusals returns -/
noncomputable def NZ.refAns (N : NZ) (al : List UInt8) (most : Int) : Int × Int :=
  if N.valid = true ∧ ScOk al most then (if 4096 < (Sc.upTo al (most.toNat + 1)).length then (0, 2) else (((refused N (Sc.upTo al (most.toNat + 1)) : Nat) : Int), 0)) else (0, 1)
theorem refAns_bad {N : NZ} {al : List UInt8} {most : Int} (h : ¬ (N.valid = true ∧ ScOk al most)) : N.refAns al most = (0, 1) := by unfold NZ.refAns; rw [if_neg h]
theorem refAns_big {N : NZ} {al : List UInt8} {most : Nat} (h : N.valid = true) (h2 : ScOk al most) (h3 : 4096 < (Sc.upTo al (most + 1)).length) : N.refAns al most = (0, 2) := by
  unfold NZ.refAns
  rw [if_pos ⟨h, h2⟩, Int.toNat_natCast, if_pos h3]
theorem refAns_ok {N : NZ} {al : List UInt8} {most : Nat} (h : N.valid = true) (h2 : ScOk al most) (h3 : ¬ 4096 < (Sc.upTo al (most + 1)).length) : N.refAns al most = (((refused N (Sc.upTo al (most + 1)) : Nat) : Int), 0) := by
  unfold NZ.refAns
  rw [if_pos ⟨h, h2⟩, Int.toNat_natCast, if_neg h3]

set_option maxHeartbeats 8000000 in
theorem nRefusalsG (w : World) (N : NZ) (pc pr pe pa : Option Addr) (kc kr ke ka : Nat) (al : List UInt8) (most : Int) (hv : NzAt w (.agg #[.slice pc N.cls.length kc, .slice pr N.rows.length kr, .slice pe N.ends.length ke]) N) (hva : Rd u8V w (.slice pa al.length ka) al) :
    Calls Tryz.prog 19 #[.agg #[.slice pc N.cls.length kc, .slice pr N.rows.length kr, .slice pe N.ends.length ke], .agg #[.slice pa al.length ka, .int .i64 most]] w fun e w' => e = .returned (.tuple #[.int .i64 (N.refAns al most).1, .int .i64 (N.refAns al most).2]) ∧ Below w.heap.size w w' := by
  by_cases hgood : N.valid = true ∧ ScOk al most
  · obtain ⟨hval, hok⟩ := hgood
    obtain ⟨m, rfl⟩ : ∃ m : Nat, most = (m : Int) := ⟨most.toNat, by have := hok.2.1; omega⟩
    have hm : m ≤ 8 := by have := hok.2.1; omega
    by_cases hbig : 4096 < (Sc.upTo al (m + 1)).length
    · rw [refAns_big hval hok hbig]
      have hse : scopeErr al m = 2 := by unfold scopeErr; rw [if_pos hbig]
      have hok2 := Lib.hid hok
      clear hok hbig
      have HV := Lib.hid hv
      have HVA := Lib.hid hva
      clear hv hva
      go_enter Tryz.func19, Tryz.ntmps19
      go_upto_region 1 with (fail)
      obtain ⟨W, hW, hB, hs, g0, g1⟩ : ∃ W, ((w.alloc (.cells #[.slice pc N.cls.length kc, .slice pr N.rows.length kr, .slice pe N.ends.length ke] 26)).alloc (.cells #[.slice pa al.length ka, .int .i64 (m : Int)] 42)) = W ∧ Below w.heap.size w W ∧ w.heap.size + 2 ≤ W.heap.size ∧ W.heap[w.heap.size]? = some (.cells #[.slice pc N.cls.length kc, .slice pr N.rows.length kr, .slice pe N.ends.length ke] 26 (0, 0)) ∧ W.heap[w.heap.size + 1]? = some (.cells #[.slice pa al.length ka, .int .i64 (m : Int)] 42 (0, 0)) := by
        refine ⟨_, rfl, below_al (below_al (Below.refl _ _) (Nat.le_refl _) _) (Nat.le_refl _) _, by simp, ?_, ?_⟩
        all_goals repeat (first | (refine heap_new' _ _ _ ?_; (simp; done)) | (refine (Below.heap_alloc _ _ _ ?_).trans ?_; · (simp <;> omega)))
      rw [hW]
      clear hW
      have HC : Hid (∀ X : World, Below W.heap.size W X → X.cell? ⟨w.heap.size, 0, none⟩ = some (.slice pc N.cls.length kc) ∧ X.cell? ⟨w.heap.size, 1, none⟩ = some (.slice pr N.rows.length kr) ∧ X.cell? ⟨w.heap.size, 2, none⟩ = some (.slice pe N.ends.length ke) ∧ X.cell? ⟨w.heap.size + 1, 0, none⟩ = some (.slice pa al.length ka) ∧ X.cell? ⟨w.heap.size + 1, 1, none⟩ = some (.int .i64 (m : Int)) ∧ NzAt X (.agg #[.slice pc N.cls.length kc, .slice pr N.rows.length kr, .slice pe N.ends.length ke]) N ∧ Rd u8V X (.slice pa al.length ka) al ∧ Below w.heap.size w X) := Lib.hid fun X hX => by
        have h0 := (hX.block w.heap.size (by omega)).trans g0
        have h1 := (hX.block (w.heap.size + 1) (by omega)).trans g1
        have hw := hB.trans (hX.mono hB.size)
        refine ⟨?_, ?_, ?_, ?_, ?_, HV.out.below hw, HVA.out.below hw, hw⟩ <;> (unfold World.cell?; first | (rw [h0]; rfl) | (rw [h1]; rfl))
      clear g0 g1 hs
      obtain ⟨c0, c1, c2, s0, s1, hv, hva, hw⟩ := HC.out W (Below.refl _ _)
      replace hv := Lib.hid hv
      replace hva := Lib.hid hva
      go_wp2_with fail
      refine (nValid W _ N hv.out).mono ?_
      rintro e W1 ⟨rfl, hb1⟩
      rw [hval]
      clear c0 c1 c2 s0 s1 hv hva hw
      obtain ⟨c0, c1, c2, s0, s1, hv, hva, hw⟩ := HC.out W1 hb1
      replace hva := Lib.hid hva
      clear hv
      go_wp2_with fail
      refine (nCheckScope W1 _ al m hva.out hok2.out.1 hm hok2.out.2.2).mono ?_
      rintro e W2 ⟨rfl, hb2⟩
      rw [hse]
      have hwx := hw.trans (hb2.mono hw.size)
      clear c0 c1 c2 s0 s1 hva hw hb2 hb1 hval hse
      go_wp2
      go_ret2
      exact ⟨rfl, hwx⟩
    · rw [refAns_ok hval hok hbig]
      exact nRefusals w N pc pr pe pa kc kr ke ka al m hv hva hok.1 hm hok.2.2 (valid_cov hval) hval (by unfold scopeErr; rw [if_neg hbig])
  · rw [refAns_bad hgood]
    have HV := Lib.hid hv
    have HVA := Lib.hid hva
    clear hv hva
    go_enter Tryz.func19, Tryz.ntmps19
    go_upto_region 1 with (fail)
    obtain ⟨W, hW, hB, hs, g0, g1⟩ : ∃ W, ((w.alloc (.cells #[.slice pc N.cls.length kc, .slice pr N.rows.length kr, .slice pe N.ends.length ke] 26)).alloc (.cells #[.slice pa al.length ka, .int .i64 most] 42)) = W ∧ Below w.heap.size w W ∧ w.heap.size + 2 ≤ W.heap.size ∧ W.heap[w.heap.size]? = some (.cells #[.slice pc N.cls.length kc, .slice pr N.rows.length kr, .slice pe N.ends.length ke] 26 (0, 0)) ∧ W.heap[w.heap.size + 1]? = some (.cells #[.slice pa al.length ka, .int .i64 most] 42 (0, 0)) := by
      refine ⟨_, rfl, below_al (below_al (Below.refl _ _) (Nat.le_refl _) _) (Nat.le_refl _) _, by simp, ?_, ?_⟩
      all_goals repeat (first | (refine heap_new' _ _ _ ?_; (simp; done)) | (refine (Below.heap_alloc _ _ _ ?_).trans ?_; · (simp <;> omega)))
    rw [hW]
    clear hW
    have HC : Hid (∀ X : World, Below W.heap.size W X → X.cell? ⟨w.heap.size, 0, none⟩ = some (.slice pc N.cls.length kc) ∧ X.cell? ⟨w.heap.size, 1, none⟩ = some (.slice pr N.rows.length kr) ∧ X.cell? ⟨w.heap.size, 2, none⟩ = some (.slice pe N.ends.length ke) ∧ X.cell? ⟨w.heap.size + 1, 0, none⟩ = some (.slice pa al.length ka) ∧ X.cell? ⟨w.heap.size + 1, 1, none⟩ = some (.int .i64 most) ∧ NzAt X (.agg #[.slice pc N.cls.length kc, .slice pr N.rows.length kr, .slice pe N.ends.length ke]) N ∧ Rd u8V X (.slice pa al.length ka) al ∧ Below w.heap.size w X) := Lib.hid fun X hX => by
      have h0 := (hX.block w.heap.size (by omega)).trans g0
      have h1 := (hX.block (w.heap.size + 1) (by omega)).trans g1
      have hw := hB.trans (hX.mono hB.size)
      refine ⟨?_, ?_, ?_, ?_, ?_, HV.out.below hw, HVA.out.below hw, hw⟩ <;> (unfold World.cell?; first | (rw [h0]; rfl) | (rw [h1]; rfl))
    clear g0 g1 hs
    obtain ⟨c0, c1, c2, s0, s1, hv, hva, hw⟩ := HC.out W (Below.refl _ _)
    replace hv := Lib.hid hv
    replace hva := Lib.hid hva
    go_wp2_with fail
    refine (nValid W _ N hv.out).mono ?_
    rintro e W1 ⟨rfl, hb1⟩
    clear c0 c1 c2 s0 s1 hv hva hw
    obtain ⟨c0, c1, c2, s0, s1, hv, hva, hw⟩ := HC.out W1 hb1
    replace hva := Lib.hid hva
    clear hv
    cases hval : N.valid with
    | false =>
      clear hgood hval
      go_wp2
      go_ret2
      exact ⟨rfl, hw⟩
    | true =>
      have hno : Hid (¬ ScOk al most) := Lib.hid (fun h => hgood ⟨hval, h⟩)
      clear hgood hval
      go_wp2_with fail
      refine (nCheckBad W1 _ al most hva.out hno.out).mono ?_
      rintro e W2 ⟨rfl, hb2⟩
      have hwx := hw.trans (hb2.mono hw.size)
      clear c0 c1 c2 s0 s1 hva hw hb2 hb1
      go_wp2
      go_ret2
      exact ⟨rfl, hwx⟩

set_option maxHeartbeats 16000000 in
theorem rRefusals (w : World) (N : NZ) (pc pr pe pa : Option Addr) (kc kr ke ka : Nat) (al : List UInt8) (most : Int) (hv : NzAt w (.agg #[.slice pc N.cls.length kc, .slice pr N.rows.length kr, .slice pe N.ends.length ke]) N) (hva : Rd u8V w (.slice pa al.length ka) al) :
    Calls Tryz.prog 24 #[.agg #[.slice pc N.cls.length kc, .slice pr N.rows.length kr, .slice pe N.ends.length ke], .agg #[.slice pa al.length ka, .int .i64 most]] w fun e w' => e = .returned (.tuple #[.int .i64 (N.refAns al most).1, .int .i64 (N.refAns al most).2]) ∧ Below w.heap.size w w' := by
  have HV := Lib.hid hv
  have HVA := Lib.hid hva
  clear hv hva
  go_enter Tryz.func24, Tryz.ntmps24
  go_upto_region 1 with (fail)
  obtain ⟨W, hW, hB, hs, g0, g1⟩ : ∃ W, ((w.alloc (.cells #[.slice pc N.cls.length kc, .slice pr N.rows.length kr, .slice pe N.ends.length ke] 26)).alloc (.cells #[.slice pa al.length ka, .int .i64 most] 42)) = W ∧ Below w.heap.size w W ∧ w.heap.size + 2 ≤ W.heap.size ∧ W.heap[w.heap.size]? = some (.cells #[.slice pc N.cls.length kc, .slice pr N.rows.length kr, .slice pe N.ends.length ke] 26 (0, 0)) ∧ W.heap[w.heap.size + 1]? = some (.cells #[.slice pa al.length ka, .int .i64 most] 42 (0, 0)) := by
    refine ⟨_, rfl, below_al (below_al (Below.refl _ _) (Nat.le_refl _) _) (Nat.le_refl _) _, by simp, ?_, ?_⟩
    all_goals repeat (first | (refine heap_new' _ _ _ ?_; (simp; done)) | (refine (Below.heap_alloc _ _ _ ?_).trans ?_; · (simp <;> omega)))
  rw [hW]
  clear hW
  have HC : Hid (∀ X : World, Below W.heap.size W X → X.cell? ⟨w.heap.size, 0, none⟩ = some (.slice pc N.cls.length kc) ∧ X.cell? ⟨w.heap.size, 1, none⟩ = some (.slice pr N.rows.length kr) ∧ X.cell? ⟨w.heap.size, 2, none⟩ = some (.slice pe N.ends.length ke) ∧ X.cell? ⟨w.heap.size + 1, 0, none⟩ = some (.slice pa al.length ka) ∧ X.cell? ⟨w.heap.size + 1, 1, none⟩ = some (.int .i64 most) ∧ NzAt X (.agg #[.slice pc N.cls.length kc, .slice pr N.rows.length kr, .slice pe N.ends.length ke]) N ∧ Rd u8V X (.slice pa al.length ka) al ∧ Below w.heap.size w X) := Lib.hid fun X hX => by
    have h0 := (hX.block w.heap.size (by omega)).trans g0
    have h1 := (hX.block (w.heap.size + 1) (by omega)).trans g1
    have hw := hB.trans (hX.mono hB.size)
    refine ⟨?_, ?_, ?_, ?_, ?_, HV.out.below hw, HVA.out.below hw, hw⟩ <;> (unfold World.cell?; first | (rw [h0]; rfl) | (rw [h1]; rfl))
  have HROW : Hid (∀ X : World, Below W.heap.size W X → Row oV X w.heap.size 26 [slO pc N.cls.length kc, slO pr N.rows.length kr, slO pe N.ends.length ke]) := Lib.hid fun X hX => (hX.block w.heap.size (by omega)).trans g0
  clear g0 g1 hs
  obtain ⟨c0, c1, c2, s0, s1, hv, hva, hw⟩ := HC.out W (Below.refl _ _)
  replace hv := Lib.hid hv
  replace hva := Lib.hid hva
  go_wp2_with fail
  refine (rValid W _ N hv.out).mono ?_
  rintro e W1 ⟨rfl, hX1⟩
  clear c0 c1 c2 s0 s1 hv hva hw
  obtain ⟨c0, c1, c2, s0, s1, hv, hva, hw⟩ := HC.out W1 hX1
  replace hva := Lib.hid hva
  clear hv
  cases hval : N.valid with
  | false =>
    have hr : Hid (N.refAns al most = (0, 1)) := Lib.hid (refAns_bad (fun h => by rw [hval] at h; cases h.1))
    clear hval
    go_wp2
    go_ret2
    exact ⟨by rw [hr.out]; rfl, hw⟩
  | true =>
    replace hval := Lib.hid hval
    go_wp2_with fail
    refine (rScopeValid W1 _ al most hva.out).mono ?_
    rintro e W2 ⟨⟨v, rfl, hv⟩, hb2⟩
    have hX2 := hX1.trans (hb2.mono hX1.size)
    clear c0 c1 c2 s0 s1 hva hw hb2
    obtain ⟨c0, c1, c2, s0, s1, _, hva, hw⟩ := HC.out W2 hX2
    replace hva := Lib.hid hva
    cases v with
    | false =>
      have hr : Hid (N.refAns al most = (0, 1)) := Lib.hid (refAns_bad (fun h => by have := hv.2 h.2; cases this))
      clear hv
      go_wp2
      go_ret2
      exact ⟨by rw [hr.out]; rfl, hw⟩
    | true =>
      have hok := hv.1 rfl
      obtain ⟨m, rfl⟩ : ∃ m : Nat, most = (m : Int) := ⟨most.toNat, by have := hok.2.1; omega⟩
      have hm : m ≤ 8 := by have := hok.2.1; omega
      replace hok := Lib.hid hok
      clear hv
      go_wp2_with fail
      refine (rScopeSize W2 _ al m hva.out hok.out.1.2 hm).mono ?_
      rintro e W3 ⟨rfl, hb3⟩
      have hX3 := hX2.trans (hb3.mono hX2.size)
      clear c0 c1 c2 s0 s1 hva hw hb3
      obtain ⟨c0, c1, c2, s0, s1, _, hva, hw⟩ := HC.out W3 hX3
      replace hva := Lib.hid hva
      by_cases hbig : 4096 < (Sc.upTo al (m + 1)).length
      · have hr : Hid (N.refAns al m = (0, 2)) := Lib.hid (refAns_big hval.out hok.out hbig)
        have hq : (4096 : Int) < ((Sc.upTo al (m + 1)).length : Int) := by omega
        go_wp2
        go_ret2
        exact ⟨by rw [hr.out]; rfl, hw⟩
      · have hr : Hid (N.refAns al m = (((refused N (Sc.upTo al (m + 1)) : Nat) : Int), 0)) := Lib.hid (refAns_ok hval.out hok.out hbig)
        have hq : ¬ (4096 : Int) < ((Sc.upTo al (m + 1)).length : Int) := by omega
        have hle : (Sc.upTo al (m + 1)).length ≤ 4096 := by omega
        go_wp2_with fail
        refine (rScopeWords W3 pa ka al m hva.out hok.out.1.2 hm hle).mono ?_
        rintro e X4 ⟨pw, cw, rfl, hLv, hb4⟩
        have hX4 := hX3.trans (hb4.mono hX3.size)
        have hmem := fun (x : Sc.Wd) => mem_upTo al (m + 1) x
        generalize Sc.upTo al (m + 1) = ws at *
        have HWL : Hid (∀ i (h : i < ws.length), ws[i].length ≤ 140737488351232) := Lib.hid fun i h => by have := hmem ws[i] (List.getElem_mem h); omega
        have HW := Lib.hid hLv
        replace hX4 := Lib.hid hX4
        have hX5 := Lib.hid (Below.refl X4.heap.size X4)
        clear c0 c1 c2 s0 s1 hva hw hb4 hLv hmem hbig hq hX2 hX3 hX1
        go_upto_region 8 with (fail)
        go_loopw [7, 8] (fun s9 s10 wx => ∃ k r : Nat, k ≤ ws.length ∧ s10 = .int .i64 k ∧ s9 = .int .i64 r ∧ Hid (r = refused N (ws.take k)) ∧ Below X4.heap.size X4 wx) (fun _ i _ => ws.length - (intOf i).toNat)
        case atStart => exact ⟨0, 0, by omega, rfl, rfl, Lib.hid rfl, hX5.out⟩
        case round =>
          clear hX5
          obtain ⟨k, r, hk, rfl, rfl, hrr, hb⟩ := hrel
          by_cases hlt : k < ws.length
          · have hq : (k : Int) < (ws.length : Int) := by omega
            have hrk : r ≤ 4096 := by
              have h1 := refused_le N (ws.take k)
              rw [List.length_take] at h1
              rw [hrr.out]; omega
            obtain ⟨bw, qw, mw, kw, rfl, hcc, hmw, hOw⟩ := HW.out.elem k hlt
            subst hmw
            have hbw := (HW.out.row bw rfl).2
            have HCE : Hid (∀ Y, Below X4.heap.size X4 Y → Y.cell? ⟨bw, k, none⟩ = some (.slice qw (ws[k]'hlt).length kw) ∧ Rd u8V Y (.slice qw (ws[k]'hlt).length kw) ws[k] ∧ Row oV Y w.heap.size 26 [slO pc N.cls.length kc, slO pr N.rows.length kr, slO pe N.ends.length ke] ∧ NzAt Y (.agg #[.slice pc N.cls.length kc, .slice pr N.rows.length kr, .slice pe N.ends.length ke]) N) := Lib.hid fun Y hY => by
              have h := HC.out Y (hX4.out.trans (hY.mono hX4.out.size))
              refine ⟨(hY.cell (p := ⟨bw, k, none⟩) hbw).trans hcc, hOw.rd.below hY, ?_, h.2.2.2.2.2.1⟩
              exact HROW.out Y (hX4.out.trans (hY.mono hX4.out.size))
            have hrt := Lib.hid (refused_take N ws k hlt)
            have hwk := HWL.out k hlt
            clear hcc hOw hbw
            generalize hxw : ws[k]'hlt = xw at *
            clear hxw
            go_wp2_with fail
            go_cut [9, 10] (fun s11 s12 wx => (∃ (po : Option Addr) (n ko : Nat), s11 = .slice po n ko) ∧ s12 = .bool (N.acc xw) ∧ Below X4.heap.size X4 wx)
            · refine wp_region_held_drew (S := fun XX => Below X4.heap.size X4 XX) rfl hb.drew fun hS => ?_
              refine takeD (i := 0) (d := 31) (v := .agg #[.slice pc N.cls.length kc, .slice pr N.rows.length kr, .slice pe N.ends.length ke]) rfl rfl (by kernel_rfl) (by kernel_rfl) (by kernel_rfl) (fun c a w h => h) (yieldsIf_load (f := oV) (l := [slO pc N.cls.length kc, slO pr N.rows.length kr, slO pe N.ends.length ke]) aggNorm (.tmp 2) rfl w.heap.size 0 rfl (fun W' h => (HCE.out W' h).2.2.1.at) rfl rfl) hS ?_
              simp only [List.setIfInBounds_toArray, List.set_cons_succ, List.set_cons_zero]
              refine takeD (i := 1) (d := 32) (v := .slice (some ⟨bw, 0, none⟩) ws.length cw) rfl rfl (by kernel_rfl) (by kernel_rfl) (by kernel_rfl) (fun c a w h => h) (yieldsIf_op rfl (fun w => by first | rfl | kernel_rfl | (go_simp; done))) hS ?_
              simp only [List.setIfInBounds_toArray, List.set_cons_succ, List.set_cons_zero]
              refine takeD (i := 2) (d := 33) (v := .int .i64 k) rfl rfl (by kernel_rfl) (by kernel_rfl) (by kernel_rfl) (fun c a w h => h) (yieldsIf_op rfl (fun w => by first | rfl | kernel_rfl | (go_simp; done))) hS ?_
              simp only [List.setIfInBounds_toArray, List.set_cons_succ, List.set_cons_zero]
              refine takeD (i := 3) (d := 34) (v := .pointer (some ⟨bw, 0 + k, none⟩)) rfl rfl (by kernel_rfl) (by kernel_rfl) (by kernel_rfl) (fun c a w h => h) (yieldsIf_op rfl (fun w => by go_simp)) hS ?_
              simp only [List.setIfInBounds_toArray, List.set_cons_succ, List.set_cons_zero]
              refine takeD (i := 4) (d := 35) (v := .slice qw xw.length kw) rfl rfl (by kernel_rfl) (by kernel_rfl) (by kernel_rfl) (fun c a w h => h) (.inl ⟨by first | rfl | kernel_rfl, fun W' h => by have q0 := (HCE.out W' h).1; go_simp⟩) hS ?_
              simp only [List.setIfInBounds_toArray, List.set_cons_succ, List.set_cons_zero]
              refine wpAnyH_ready (rs := [5]) (by kernel_rfl) (by simp) (AllReadyH.cons rfl (fun K' hK => ?_) AllReadyH.nil)
              refine callD (d := 36) (g := 10) (args := #[.agg #[.slice pc N.cls.length kc, .slice pr N.rows.length kr, .slice pe N.ends.length ke], .slice qw xw.length kw]) rfl rfl (by first | kernel_rfl | (simp [execOp, resolve, invoke, Act.eval]) | go_simp) ?_
              refine (rRun _ N pc pr pe qw kc kr ke kw xw (HCE.out _ hS).2.2.2 (HCE.out _ hS).2.1 hwk).mono ?_
              rintro e A1 ⟨hBx, ⟨hno, rfl⟩ | ⟨hyes, m2, _, po, ko, rfl, hO⟩⟩
              · replace hno := Lib.hid hno
                replace hS := hS.trans (hBx.mono hS.size)
                refine ⟨_, rfl, hK.out _ _ hS fun _ => ?_⟩
                clear hK
                simp only [List.setIfInBounds_toArray, List.set_cons_succ, List.set_cons_zero]
                refine takeD (i := 6) (d := 30) (v := .tuple #[.slice none 0 0, .bool false]) rfl rfl (by kernel_rfl) (by kernel_rfl) (by kernel_rfl) (fun c a w h => h) (yieldsIf_op rfl (fun w => by first | rfl | kernel_rfl | (go_simp; done))) hS ?_
                simp only [List.setIfInBounds_toArray, List.set_cons_succ, List.set_cons_zero]
                refine takeD (i := 7) (d := 37) (v := .slice none 0 0) rfl rfl (by kernel_rfl) (by kernel_rfl) (by kernel_rfl) (fun c a w h => h) (yieldsIf_op rfl (fun w => by first | rfl | kernel_rfl | (go_simp; done))) hS ?_
                simp only [List.setIfInBounds_toArray, List.set_cons_succ, List.set_cons_zero]
                refine takeD (i := 8) (d := 38) (v := .bool false) rfl rfl (by kernel_rfl) (by kernel_rfl) (by kernel_rfl) (fun c a w h => h) (yieldsIf_op rfl (fun w => by first | rfl | kernel_rfl | (go_simp; done))) hS ?_
                simp only [List.setIfInBounds_toArray, List.set_cons_succ, List.set_cons_zero]
                refine takeD (i := 9) (d := 9) (v := .slice none 0 0) rfl rfl (by kernel_rfl) (by kernel_rfl) (by kernel_rfl) (fun c a w h => h) (yieldsIf_op rfl (fun w => by first | rfl | kernel_rfl | (go_simp; done))) hS ?_
                simp only [List.setIfInBounds_toArray, List.set_cons_succ, List.set_cons_zero]
                refine takeD (i := 10) (d := 10) (v := .bool false) rfl rfl (by kernel_rfl) (by kernel_rfl) (by kernel_rfl) (fun c a w h => h) (yieldsIf_op rfl (fun w => by first | rfl | kernel_rfl | (go_simp; done))) hS ?_
                simp only [List.setIfInBounds_toArray, List.set_cons_succ, List.set_cons_zero]
                refine wpAnyH_done (by kernel_rfl) ?_ _
                go_wp2
                go_meet
                exact ⟨⟨none, 0, 0, rfl⟩, by rw [hno.out], hS⟩
              · replace hyes := Lib.hid hyes
                replace hS := hS.trans (hBx.mono hS.size)
                refine ⟨_, rfl, hK.out _ _ hS fun _ => ?_⟩
                clear hK
                simp only [List.setIfInBounds_toArray, List.set_cons_succ, List.set_cons_zero]
                refine takeD (i := 6) (d := 30) (v := .tuple #[.slice po m2.length ko, .bool true]) rfl rfl (by kernel_rfl) (by kernel_rfl) (by kernel_rfl) (fun c a w h => h) (yieldsIf_op rfl (fun w => by first | rfl | kernel_rfl | (go_simp; done))) hS ?_
                simp only [List.setIfInBounds_toArray, List.set_cons_succ, List.set_cons_zero]
                refine takeD (i := 7) (d := 37) (v := .slice po m2.length ko) rfl rfl (by kernel_rfl) (by kernel_rfl) (by kernel_rfl) (fun c a w h => h) (yieldsIf_op rfl (fun w => by first | rfl | kernel_rfl | (go_simp; done))) hS ?_
                simp only [List.setIfInBounds_toArray, List.set_cons_succ, List.set_cons_zero]
                refine takeD (i := 8) (d := 38) (v := .bool true) rfl rfl (by kernel_rfl) (by kernel_rfl) (by kernel_rfl) (fun c a w h => h) (yieldsIf_op rfl (fun w => by first | rfl | kernel_rfl | (go_simp; done))) hS ?_
                simp only [List.setIfInBounds_toArray, List.set_cons_succ, List.set_cons_zero]
                refine takeD (i := 9) (d := 9) (v := .slice po m2.length ko) rfl rfl (by kernel_rfl) (by kernel_rfl) (by kernel_rfl) (fun c a w h => h) (yieldsIf_op rfl (fun w => by first | rfl | kernel_rfl | (go_simp; done))) hS ?_
                simp only [List.setIfInBounds_toArray, List.set_cons_succ, List.set_cons_zero]
                refine takeD (i := 10) (d := 10) (v := .bool true) rfl rfl (by kernel_rfl) (by kernel_rfl) (by kernel_rfl) (fun c a w h => h) (yieldsIf_op rfl (fun w => by first | rfl | kernel_rfl | (go_simp; done))) hS ?_
                simp only [List.setIfInBounds_toArray, List.set_cons_succ, List.set_cons_zero]
                refine wpAnyH_done (by kernel_rfl) ?_ _
                go_wp2
                go_meet
                exact ⟨⟨po, m2.length, ko, rfl⟩, by rw [hyes.out], hS⟩
            obtain ⟨⟨po, n, ko, rfl⟩, rfl, hb2⟩ := hcut
            clear hb HCE
            cases hac : N.acc xw with
            | true =>
              have he : Hid (r = refused N (ws.take (k + 1))) := Lib.hid (by rw [hrt.out, hac, ← hrr.out]; rfl)
              clear hrt hrr hac
              go_wp2_with fail
              go_roundw
              case rel => exact ⟨k + 1, r, by omega, by go_num, rfl, he, hb2⟩
              case measure => simp [intOf] <;> omega
            | false =>
              have he : Hid (r + 1 = refused N (ws.take (k + 1))) := Lib.hid (by rw [hrt.out, hac, ← hrr.out]; rfl)
              clear hrt hrr hac
              go_wp2_with fail
              go_roundw
              case rel => exact ⟨k + 1, r + 1, by omega, by go_num, by go_num, he, hb2⟩
              case measure => simp [intOf] <;> omega
          · obtain rfl : k = ws.length := by omega
            have hq : ¬ (ws.length : Int) < (ws.length : Int) := by omega
            rw [List.take_of_length_le (Nat.le_refl _)] at hrr
            have hw := (HC.out _ (hX4.out.trans (hb.mono hX4.out.size))).2.2.2.2.2.2.2
            clear hb HW HWL
            go_wp2
            go_ret2
            exact ⟨by rw [hr.out, ← hrr.out]; rfl, hw⟩
end Go.Proofs.YtgflelodpcgmbaaGreatDoor
