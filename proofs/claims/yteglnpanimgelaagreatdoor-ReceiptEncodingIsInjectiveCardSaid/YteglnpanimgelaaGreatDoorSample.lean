/- receipt.Sample and the reference's Sample, for all numbers. -/
import Derived.Test.YteglnpanimgelaaGreatDoorAppSeq
import Derived.Test.YteglnpanimgelaaGreatDoorRefKeyed
import Derived.Test.YteglnpanimgelaaGreatDoorRefNumber
import Derived.Test.YteglnpanimgelaaGreatDoorHeldTail
namespace Go.Proofs.YteglnpanimgelaaGreatDoor
open Go.RowKit Mem
set_option maxRecDepth 100000

namespace Sha
def sampErr (n rate : Int) : Int := if sampOk n rate then 0 else 1
def sampL (seed : List UInt8) (n rate : Int) : List Int := if sampOk n rate then samp seed rate.toNat n.toNat else []
theorem sampL_len (seed : List UInt8) (n rate : Int) : (sampL seed n rate).length ≤ 4800 := by
  unfold sampL
  cases h : sampOk n rate
  · simp
  · have := sampOk_yes h
    have := samp_len seed rate.toNat n.toNat
    simp; omega
end Sha

theorem sampleNo (w : World) (K0 : Array Value) (n rate : Int) (h : Sha.sampOk n rate = false) :
    Calls Tryz.prog 8 #[.agg K0, .int .i64 n, .int .i64 rate] w fun e w' => e = .returned (.tuple #[.slice none 0 0, .int .i64 1]) ∧ Below w.heap.size w w' := by
  have hb0 : Below w.heap.size w (w.alloc (.cells K0 23)) := (Below.refl _ _).alloc (Nat.le_refl _) _
  by_cases h1 : n < 0
  · go_enter Tryz.func8, Tryz.ntmps8
    go_wp2
    go_ret2
    exact ⟨rfl, hb0⟩
  by_cases h2 : 4800 < n
  · go_enter Tryz.func8, Tryz.ntmps8
    go_wp2
    go_ret2
    exact ⟨rfl, hb0⟩
  by_cases h3 : rate < 1
  · go_enter Tryz.func8, Tryz.ntmps8
    go_wp2
    go_ret2
    exact ⟨rfl, hb0⟩
  have h4 : 1000 < rate := by have := Sha.sampOk_no h; omega
  go_enter Tryz.func8, Tryz.ntmps8
  go_wp2
  go_ret2
  exact ⟨rfl, hb0⟩

theorem sample (w : World) (tg : TypeId) (fg : Nat × Nat) (hg : w.heap[0]? = some (.cells (Sha.consts.map u32V).toArray tg fg)) (seed : List UInt8) (hsl : seed.length = 32) (K0 : Array Value) (HK : Hid (K0 = (seed.map u8V).toArray)) (n rate : Int) :
    Calls Tryz.prog 8 #[.agg K0, .int .i64 n, .int .i64 rate] w fun e w' => ∃ v, e = .returned (.tuple #[v, .int .i64 (Sha.sampErr n rate)]) ∧ Rd iV w' v (Sha.sampL seed n rate) ∧ Below w.heap.size w w' := by
  cases h : Sha.sampOk n rate with
  | false =>
    refine (sampleNo w K0 n rate h).mono ?_
    rintro e w' ⟨rfl, hb⟩
    exact ⟨_, by simp [Sha.sampErr, h], .inl ⟨none, rfl, by simp [Sha.sampL, h]⟩, hb⟩
  | true =>
    obtain ⟨h1, h2, h3, h4⟩ := Sha.sampOk_yes h
    obtain ⟨m, rfl⟩ := Int.eq_ofNat_of_zero_le h1
    obtain ⟨r, rfl⟩ := Int.eq_ofNat_of_zero_le (show 0 ≤ rate by omega)
    refine (sampleYes w tg fg hg seed hsl K0 HK m r (by omega) (by omega) (by omega)).mono ?_
    rintro e w' ⟨v, rfl, hO, hb⟩
    refine ⟨v, by simp [Sha.sampErr, h], ?_, hb⟩
    have := hO.rd
    simpa [Sha.sampL, h] using this

theorem refSampleNo (w : World) (K0 : Array Value) (n rate : Int) (h : Sha.sampOk n rate = false) :
    Calls Tryz.prog 9 #[.agg K0, .int .i64 n, .int .i64 rate] w fun e w' => e = .returned (.tuple #[.slice none 0 0, .int .i64 1]) ∧ Below w.heap.size w w' := by
  have hb0 : Below w.heap.size w (w.alloc (.cells K0 23)) := (Below.refl _ _).alloc (Nat.le_refl _) _
  by_cases h1 : n < 0
  · go_enter Tryz.func9, Tryz.ntmps9
    go_wp2
    go_ret2
    exact ⟨rfl, hb0⟩
  by_cases h2 : 4800 < n
  · go_enter Tryz.func9, Tryz.ntmps9
    go_wp2
    go_ret2
    exact ⟨rfl, hb0⟩
  by_cases h3 : rate < 1
  · go_enter Tryz.func9, Tryz.ntmps9
    go_wp2
    go_ret2
    exact ⟨rfl, hb0⟩
  have h4 : 1000 < rate := by have := Sha.sampOk_no h; omega
  go_enter Tryz.func9, Tryz.ntmps9
  go_wp2
  go_ret2
  exact ⟨rfl, hb0⟩

theorem put_some (a : Act) (d : Tmp) (v : Value) : Act.put a (some d) v = { a with tmps := a.tmps.setIfInBounds d v } := rfl
set_option maxHeartbeats 8000000 in
theorem refSampleYes (w : World) (seed : List UInt8) (hsl : seed.length = 32) (K0 : Array Value) (HK : Hid (K0 = (seed.map u8V).toArray)) (n rate : Nat) (h2 : n ≤ 4800) (h3 : 1 ≤ rate) (h4 : rate ≤ 1000) :
    Calls Tryz.prog 9 #[.agg K0, .int .i64 n, .int .i64 rate] w fun e w' => ∃ v, e = .returned (.tuple #[v, .int .i64 0]) ∧ Mem.Own iV w' w.heap.size 3 v (Sha.samp seed rate n) ∧ Below w.heap.size w w' := by
  have harr : AggT Tryz.prog 23 seed.length := by rw [hsl]; exact arr23
  have HSL := Lib.hid hsl
  clear hsl
  have q1 : 0 ≤ (n : Int) := by omega
  have q2 : (n : Int) ≤ 4800 := by omega
  have q3 : 1 ≤ (rate : Int) := by omega
  have q4 : (rate : Int) ≤ 1000 := by omega
  have hR0 : Row u8V (w.alloc (.cells K0 23)) w.heap.size 23 seed := Row.new w _ (by rw [HK.out])
  have hb0 : Below w.heap.size w (w.alloc (.cells K0 23)) := (Below.refl _ _).alloc (Nat.le_refl _) _
  go_enter Tryz.func9, Tryz.ntmps9
  go_wp2_with fail
  have hR1 : Row u8V ((w.alloc (.cells K0 23)).alloc (.cells #[] 3)) w.heap.size 23 seed := hR0.alloc _
  have hb1 : Below w.heap.size w ((w.alloc (.cells K0 23)).alloc (.cells #[] 3)) := hb0.alloc (by simp) _
  have hO1 : Mem.Own iV ((w.alloc (.cells K0 23)).alloc (.cells #[] 3)) (w.heap.size + 1) 3 (.slice (some ⟨w.heap.size + 1, 0, none⟩) 0 0) [] := by
    have := Mem.Own.new (f := iV) (e := 3) (l := []) (w.alloc (.cells K0 23)) (.cells #[] 3) (w.heap.size + 1) (by simp) rfl (by simp [maxLen])
    simpa using this
  have hs1 : w.heap.size + 2 ≤ ((w.alloc (.cells K0 23)).alloc (.cells #[] 3)).heap.size := by simp
  generalize (w.alloc (.cells K0 23)).alloc (.cells #[] 3) = w1 at *
  clear hR0 hb0
  go_loopw [8, 9] (fun vo i wr => ∃ (k : Nat), k ≤ n ∧ i = .int .i64 k ∧ Mem.Own iV wr (w.heap.size + 1) 3 vo (Sha.samp seed rate k) ∧ Row u8V wr w.heap.size 23 seed ∧ Below w.heap.size w wr ∧ w.heap.size + 2 ≤ wr.heap.size) (fun _ i _ => n - (intOf i).toNat)
  case atStart => exact ⟨0, by omega, rfl, hO1, hR1, hb1, hs1⟩
  case round =>
    clear hR1 hb1 hO1 hs1
    obtain ⟨k, hk, rfl, hO, hR, hb, hs⟩ := hrel
    have hkl := Sha.samp_len seed rate k
    by_cases hlt : k < n
    · have hq : (k : Int) < (n : Int) := by omega
      obtain ⟨po, co, rfl⟩ := hO.slice
      have hrI : ¬ ((rate : Int) = 0) := by omega
      have hsz : IntKind.u64.wrap (rate : Int) = (rate : Int) := by rw [IntKind.wrap_u64]; omega
      have HLEN := Lib.hid hkl
      have HY := Lib.hid (Sha.samp_yes seed rate k)
      have HN := Lib.hid (Sha.samp_no seed rate k)
      have hkl2 : (Sha.samp seed rate k).length ≤ 4800 := by omega
      clear hkl
      generalize Sha.samp seed rate k = l at *
      go_wp2_with fail
      refine wp_region_held_drew (S := fun w' => Mem.Own iV w' (w.heap.size + 1) 3 (.slice po l.length co) l ∧ Row u8V w' w.heap.size 23 seed ∧ Below w.heap.size w w' ∧ w.heap.size + 2 ≤ w'.heap.size) rfl ⟨hO, hR, hb.drew, by simpa using hs⟩ fun hS => ?_
      refine wpAnyH_take (i := 0) (v := .agg K0) rfl (by kernel_rfl) (by kernel_rfl) (by kernel_rfl) (fun c a w h => h) (yieldsIf_load (f := u8V) (l := seed) harr (.tmp 3) rfl w.heap.size 0 rfl (fun w h => h.2.1.at) HK.out rfl) hS ?_
      refine wpAnyH_take (i := 1) (v := .int .i64 k) rfl (by kernel_rfl) (by kernel_rfl) (by kernel_rfl) (fun c a w h => h) (yieldsIf_op rfl (fun w => rfl)) hS ?_
      refine wpAnyH_take (i := 5) (v := .int .i64 rate) rfl (by kernel_rfl) (by kernel_rfl) (by kernel_rfl) (fun c a w h => h) (yieldsIf_op rfl (fun w => rfl)) hS ?_
      refine wpAnyH_take (i := 6) (v := .int .u64 rate) rfl (by kernel_rfl) (by kernel_rfl) (by kernel_rfl) (fun c a w h => h) (yieldsIf_op rfl (fun w => by first | (simp [execOp, Act.put, Act.eval, convert, hsz, go_sem]; done) | (go_simp; done))) hS ?_
      refine wpAnyH_ready (rs := [2]) (by kernel_rfl) (by simp) (AllReadyH.cons rfl (fun K' hK => ?_) AllReadyH.nil)
      refine held_call (g := 25) (args := #[.int .i64 k, .int .i64 8]) rfl (by first | kernel_rfl | (simp [execOp, resolve, invoke, Act.put, Act.eval]) | go_simp) ?_
      refine (refNumber wr.drew k 8 (by omega)).mono ?_
      rintro e w2 ⟨v2, rfl, hO2, hB2⟩
      rw [Sha.u64_nat _ (by omega)] at hO2
      have hSn : ∀ (A B : World), (Mem.Own iV A (w.heap.size + 1) 3 (.slice po l.length co) l ∧ Row u8V A w.heap.size 23 seed ∧ Below w.heap.size w A ∧ w.heap.size + 2 ≤ A.heap.size) → Below A.heap.size A B →
          (Mem.Own iV B (w.heap.size + 1) 3 (.slice po l.length co) l ∧ Row u8V B w.heap.size 23 seed ∧ Below w.heap.size w B ∧ w.heap.size + 2 ≤ B.heap.size) := fun _ _ h hB => ⟨h.1.below' hB, h.2.1.below hB h.2.1.lt, h.2.2.1.trans (hB.mono h.2.2.1.size), Nat.le_trans h.2.2.2 hB.size⟩
      have HSN := Lib.hid hSn
      clear hSn
      have hS2 := HSN.out _ _ hS hB2
      refine ⟨_, rfl, hK.out _ _ hS2 fun _ => ?_⟩
      clear hK
      refine wpAnyH_ready (rs := [3]) (by kernel_rfl) (by simp) (AllReadyH.cons rfl (fun K' hK => ?_) AllReadyH.nil)
      refine held_call (g := 24) (args := #[.agg K0, v2]) rfl (by first | kernel_rfl | (simp [execOp, resolve, invoke, Act.put, Act.eval]) | go_simp) ?_
      refine (refKeyed w2 seed HSL.out K0 HK v2 (Sha.le k 8) hO2.rd (by rw [Sha.le_length]; omega)).mono ?_
      rintro e w3 ⟨C3, rfl, HC3, hB3⟩
      have hS3 := HSN.out _ _ hS2 hB3
      refine ⟨_, rfl, hK.out _ _ hS3 fun _ => ?_⟩
      clear hK
      refine wpAnyH_ready (rs := [4]) (by kernel_rfl) (by simp) (AllReadyH.cons rfl (fun K' hK => ?_) AllReadyH.nil)
      refine held_call (g := 23) (args := #[.agg C3]) rfl (by first | kernel_rfl | (simp [execOp, resolve, invoke, Act.put, Act.eval]) | go_simp) ?_
      refine (refFirst w3 (Sha.keyed seed (Sha.le k 8)) (keyed_length _ _) C3 HC3).mono ?_
      rintro e w4 ⟨rfl, hB4⟩
      have hS4 := HSN.out _ _ hS3 hB4
      refine ⟨_, rfl, hK.out _ _ hS4 fun _ => ?_⟩
      clear hK hS hS2 hS3 hB2 hB3 hB4 hO hR hb hs hO2
      have HHIT := Lib.hid (show Sha.hit seed rate k = (Sha.first (Sha.keyed seed (Sha.le k 8)) 8 % rate == 0) from rfl)
      generalize Sha.first (Sha.keyed seed (Sha.le k 8)) 8 = X at *
      refine wpAnyH_take (i := 7) (v := .int .u64 ((X : Int) % (rate : Int))) rfl (by kernel_rfl) (by kernel_rfl) (by kernel_rfl) (fun c a w h => h) (yieldsIf_op rfl (fun w => by
        simp [execOp, Act.put, Act.eval, binOp, go_sem]
        rw [if_neg (by omega), Int.tmod_eq_emod_of_nonneg (by omega)])) hS4 ?_
      refine wpAnyH_take (i := 8) (v := .bool ((X : Int) % (rate : Int) == 0)) rfl (by kernel_rfl) (by kernel_rfl) (by kernel_rfl) (fun c a w h => h) (yieldsIf_op rfl (fun w => by
        simp [execOp, Act.put, Act.eval, binOp, go_sem])) hS4 ?_
      refine wpAnyH_done (by kernel_rfl) ?_ _
      obtain ⟨hO, hR, hb, hs⟩ := hS4
      simp only [List.getElem_toArray, List.getElem_cons_succ, List.getElem_cons_zero, put_some, List.setIfInBounds_toArray, List.set_cons_succ, List.set_cons_zero]
      clear hsz hrI
      cases hh : Sha.hit seed rate k with
      | true =>
        have HS := Lib.hid (HY.out hh)
        have hbX : ((X : Int) % (rate : Int) == 0) = true := by
          rw [HHIT.out, beq_iff_eq] at hh
          rw [beq_iff_eq]; exact_mod_cast hh
        clear hh HHIT
        go_wp2_with (at_builtin; (with_reducible refine append_one eltI (.tmp 39) (.tmp 41) ?_ ?_ iV_one ?_ hO (k : Int) _ ?_ _ ?_ ?_ ?_ ?_ (l ++ [(k : Int)]) ?_ ?_); rfl; rfl; rfl; rfl; rfl; omega; omega; omega; rfl; intro p5 c5 w5 hO5 hB5 hG5)
        rw [List.length_append, List.length_singleton] at hO5
        go_roundw
        case rel => exact ⟨k + 1, by omega, by go_num, by rw [HS.out]; exact hO5, hR.below (hB5.mono (B' := w.heap.size + 1) (Nat.le_refl _)) (by omega), hb.trans (hB5.mono (by omega)), Nat.le_trans hs hB5.size⟩
        case measure => simp [intOf]; omega
      | false =>
        have HS := Lib.hid (HN.out hh)
        have hbX : ((X : Int) % (rate : Int) == 0) = false := by
          rw [HHIT.out, beq_eq_false_iff_ne] at hh
          rw [beq_eq_false_iff_ne]; exact_mod_cast hh
        clear hh HHIT
        go_wp2
        go_roundw
        case rel => exact ⟨k + 1, by omega, by go_num, by rw [HS.out]; exact hO, hR, hb, hs⟩
        case measure => simp [intOf]; omega
    · obtain rfl : k = n := by omega
      go_wp2
      go_ret2
      exact ⟨_, rfl, hO.mono (by omega), hb⟩
end Go.Proofs.YteglnpanimgelaaGreatDoor
