/- univocalref01.Has and With. -/
import Derived.Test.YtgflelodpcgmbaaGreatDoorMPop
import Derived.Test.YtgflelodpcgmbaaGreatDoorMZero
namespace Go.Proofs.YtgflelodpcgmbaaGreatDoor
open Go Go.RowKit Mem
set_option maxRecDepth 100000

theorem mem_div (x : UInt64) (r : Nat) : ((X x / 2 ^ r) % 2 == 1) = x.toNat.testBit r := by
  unfold X
  rw [Nat.testBit_eq_decide_div_mod_eq]
  have h : (x.toNat : Int) / 2 ^ r % 2 = ((x.toNat / 2 ^ r % 2 : Nat) : Int) := by simp
  rw [h, Bool.eq_iff_iff]
  simp
  omega
set_option maxHeartbeats 4000000 in
theorem rHas (w : World) (c : Cl) (b : UInt8) : Calls Tryz.prog 67 #[.agg (clA c), .int .u8 (b.toNat : Int)] w fun e w' => e = .returned (.bool (c.mem b.toNat)) ∧ Below w.heap.size w w' := by
  obtain ⟨q, r, hq, hr, hn⟩ : ∃ q r, q < 4 ∧ r < 64 ∧ b.toNat = 64 * q + r := ⟨b.toNat / 64, b.toNat % 64, by have := b.toNat_lt; omega, by omega, by omega⟩
  have hh : c.mem b.toNat = (c.w q).toNat.testBit r := by rw [hn]; exact c.mem_at q r hr
  rw [hh]
  have hrow : Row oV (w.alloc (.cells (clA c) 80)) w.heap.size 80 (clL c) := Row.new _ _ rfl
  have hB : Below w.heap.size w (w.alloc (.cells (clA c) 80)) := (Below.refl _ _).alloc (Nat.le_refl _) _
  have hc : (w.alloc (.cells (clA c) 80)).cell? ⟨w.heap.size, q, none⟩ = some (.int .u64 (X (c.w q))) := by rw [hrow.cell?, clL_get c q hq]; rfl
  have d1 : ((b.toNat : Int)).tdiv 64 = (q : Int) := by rw [hn, Int.tdiv_eq_ediv_of_nonneg (by omega)]; omega
  have d2 : ((b.toNat : Int)).tmod 64 = (r : Int) := by rw [hn, Int.tmod_eq_emod_of_nonneg (by omega)]; omega
  have d3 : (b.toNat : Int) / 64 = (q : Int) := by omega
  have d4 : (b.toNat : Int) % 64 = (r : Int) := by omega
  have x0 := X_nonneg (c.w q >>> UInt64.ofNat r)
  have x1 := X_shr (c.w q) r hr
  have x2 : (X (c.w q >>> UInt64.ofNat r)).tmod 2 = X (c.w q >>> UInt64.ofNat r) % 2 := Int.tmod_eq_emod_of_nonneg x0
  clear hn hrow hh
  go_enter Tryz.func67, Tryz.ntmps67
  go_upto_region 1 with (fail)
  generalize (w.alloc (.cells (clA c) 80)) = W at hB hc ⊢
  have hq' : (q : Int) < 4 := by omega
  go_wp2_with fail
  go_ret
  exact ⟨by rw [← mem_div, x1]; rfl, hB⟩

set_option maxHeartbeats 4000000 in
theorem rWith (w : World) (c : Cl) (b : UInt8) : Calls Tryz.prog 74 #[.agg (clA c), .int .u8 (b.toNat : Int)] w fun e w' => e = .returned (.agg (clA (c.add b.toNat))) ∧ Below w.heap.size w w' := by
  obtain ⟨q, r, hq, hr, hn⟩ : ∃ q r, q < 4 ∧ r < 64 ∧ b.toNat = 64 * q + r := ⟨b.toNat / 64, b.toNat % 64, by have := b.toNat_lt; omega, by omega, by omega⟩
  have hh : c.add b.toNat = c.setW q (c.w q ||| ((1 : UInt64) <<< UInt64.ofNat r)) := by
    unfold Cl.add
    rw [show b.toNat / 64 = q by omega, show b.toNat % 64 = r by omega]
  rw [hh]
  have hset : (clL c).set q (ow (X (c.w q ||| ((1 : UInt64) <<< UInt64.ofNat r)))) = clL (c.setW q (c.w q ||| ((1 : UInt64) <<< UInt64.ofNat r))) := by
    rcases (by omega : q = 0 ∨ q = 1 ∨ q = 2 ∨ q = 3) with rfl | rfl | rfl | rfl <;> rfl
  have d1 : ((b.toNat : Int)).tdiv 64 = (q : Int) := by rw [hn, Int.tdiv_eq_ediv_of_nonneg (by omega)]; omega
  have d2 : ((b.toNat : Int)).tmod 64 = (r : Int) := by rw [hn, Int.tmod_eq_emod_of_nonneg (by omega)]; omega
  have d3 : (b.toNat : Int) / 64 = (q : Int) := by omega
  have d4 : (b.toNat : Int) % 64 = (r : Int) := by omega
  have x1 := X_pow r hr
  have x2 := X_or (c.w q) ((1 : UInt64) <<< UInt64.ofNat r)
  have hq' : (q : Int) < 4 := by omega
  clear hn hh
  go_enter Tryz.func74, Tryz.ntmps74
  go_upto_region 1 with (fail)
  obtain ⟨W, hW, hB, hs, r2, r4⟩ : ∃ W, ((w.alloc (.cells (clA c) 80)).alloc (.cells #[.int .u64 0, .int .u64 0, .int .u64 0, .int .u64 0] 80)) = W ∧ Below w.heap.size w W ∧ w.heap.size + 2 ≤ W.heap.size ∧ Row oV W w.heap.size 80 (clL c) ∧ Row oV W (w.heap.size + 1) 80 [ow 0, ow 0, ow 0, ow 0] := by
    refine ⟨_, rfl, below_al (below_al (Below.refl _ _) (Nat.le_refl _) _) (Nat.le_refl _) _, by simp, ?_, ?_⟩
    all_goals repeat (first | (refine heap_new' _ _ _ ?_; (simp; done)) | (refine (Below.heap_alloc _ _ _ ?_).trans ?_; · (simp <;> omega)))
  rw [hW]
  clear hW
  have hc : W.cell? ⟨w.heap.size, q, none⟩ = some (.int .u64 (X (c.w q))) := by rw [r2.cell?, clL_get c q hq]; rfl
  have f2 := r2.frozen q
  go_upto_region 3 with (fail)
  generalize hv : (c.w q ||| ((1 : UInt64) <<< UInt64.ofNat r)) = v at *
  have hB2 := below_set hB (b := w.heap.size) q (Nat.le_refl _) (.int .u64 (X v))
  have s2 : Row oV (W.setCell ⟨w.heap.size, q, none⟩ (.int .u64 (X v))) w.heap.size 80 (clL (c.setW q v)) := by
    rw [← hset]; exact r2.set q (ow (X v))
  have s4 := r4.set_other (b' := w.heap.size) (by omega) q (.int .u64 (X v))
  generalize (W.setCell ⟨w.heap.size, q, none⟩ (.int .u64 (X v))) = W2 at *
  go_wp2_with (first
    | ((with_reducible refine load_agg (f := oV) (l := clL (c.setW q v)) (C := clA (c.setW q v)) aggCl (.tmp 2) ?_ ?_ w.heap.size 0 ?_ s2.at rfl ?_); rfl; rfl; rfl)
    | ((with_reducible refine store_agg (f := oV) (l := [ow 0, ow 0, ow 0, ow 0]) (l' := clL (c.setW q v)) (t := 80) (C := clA (c.setW q v)) aggCl (.tmp 4) (.tmp 18) ?_ ?_ (w.heap.size + 1) ?_ ?_ ?_ s4 ?_ oV_one ?_); rfl; rfl; rfl; rfl; rfl; rfl; (intro W6 hs6 hG6 hz6)))
  refine bodyPost_ret (results_agg (f := oV) (l := clL (c.setW q v)) rfl _ aggCl (w.heap.size + 1) 0 rfl hs6.at) rfl ?_
  exact ⟨by rw [hv]; rfl, hB2.grown hG6 hB2.size (fun k e => by cases e; omega)⟩
end Go.Proofs.YtgflelodpcgmbaaGreatDoor
/- univocalref01.Not, Union, Intersect. -/
namespace Go.Proofs.YtgflelodpcgmbaaGreatDoor
open Go Go.RowKit Mem
set_option maxRecDepth 100000

/-- the complement -/
def Cl.compl (a : Cl) : Cl := fillC (fun i => !a.mem i) 256
set_option maxHeartbeats 8000000 in
theorem rNot (w : World) (a : Cl) : Calls Tryz.prog 41 #[.agg (clA a)] w fun e w' => e = .returned (.agg (clA (a.compl))) ∧ Below w.heap.size w w' := by
  go_enter Tryz.func41, Tryz.ntmps41
  go_upto_region 1 with (fail)
  obtain ⟨W, hW, hB, hs, r0, r1⟩ : ∃ W, ((w.alloc (.cells (clA a) 80)).alloc (.cells #[.int .u64 0, .int .u64 0, .int .u64 0, .int .u64 0] 80)) = W ∧ Below w.heap.size w W ∧ w.heap.size + 2 ≤ W.heap.size ∧ Row oV W (w.heap.size) 80 (clL a) ∧ Row oV W (w.heap.size + 1) 80 [ow 0, ow 0, ow 0, ow 0] := by
    refine ⟨_, rfl, (below_al (below_al (Below.refl _ _) (Nat.le_refl _) _) (Nat.le_refl _) _), by simp, ?_, ?_⟩
    all_goals repeat (first | (refine heap_new' _ _ _ ?_; (simp; done)) | (refine (Below.heap_alloc _ _ _ ?_).trans ?_; · (simp <;> omega)))
  rw [hW]
  clear hW
  have hz : Row oV (W.alloc (.cells #[.int .u64 0, .int .u64 0, .int .u64 0, .int .u64 0] 80)) W.heap.size 80 [ow 0, ow 0, ow 0, ow 0] := Row.new _ _ rfl
  go_upto_region 2 with (((with_reducible refine store_agg (f := oV) (l := [ow 0, ow 0, ow 0, ow 0]) (l' := [ow 0, ow 0, ow 0, ow 0]) (t := 80) (C := #[.int .u64 0, .int .u64 0, .int .u64 0, .int .u64 0]) aggCl (.tmp 3) (.tmp 5) ?_ ?_ W.heap.size ?_ ?_ ?_ hz ?_ oV_one ?_); rfl; rfl; rfl; rfl; rfl; rfl; (intro W1 hs1 hG1 hz1)))
  have hb1 := below_row (Below.refl W.heap.size W) hG1
  replace r0 := r0.below hb1 r0.lt
  replace r1 := r1.below hb1 r1.lt
  replace hB := hB.trans (hb1.mono hB.size)
  have hlc : w.heap.size + 1 < W.heap.size ∧ w.heap.size ≤ W.heap.size := by omega
  generalize hcb : W.heap.size = cb at *
  clear hs hz hG1 hz1 hb1 hcb W
  have HP : ∃ p : Nat → Bool, Hid (p = fun i => !a.mem i) := ⟨_, Lib.hid rfl⟩
  obtain ⟨p, HP⟩ := HP
  go_upto_region 3 with (fail)
  go_loopw [4] (fun i wr => ∃ (k : Nat), k ≤ 256 ∧ i = .int .i64 k ∧ Row oV wr cb 80 (clL (fillC p k)) ∧ Below cb W1 wr) (fun i _ => 256 - (intOf i).toNat)
  case atStart => exact ⟨0, by omega, rfl, hs1, Below.refl _ _⟩
  case round =>
    obtain ⟨k, hk, rfl, hR, hb⟩ := hrel
    replace r0 := r0.below hb (by omega)
    replace r1 := r1.below hb (by omega)
    replace hB := hB.trans (hb.mono (by omega))
    have hcw := hs1.lt
    by_cases hlt : k < 256
    · have hq : (k : Int) < 256 := by omega
      have hbk : (UInt8.ofNat k).toNat = k := by simp; omega
      have hw8 : IntKind.u8.wrap (k : Int) = (k : Int) := by rw [IntKind.wrap_u8]; omega
      have HPS := Lib.hid (fillC_succ p k)
      have hpk : Hid (p k = !a.mem k) := Lib.hid (by rw [HP.out])
      clear hs1
      go_wp2_with ((with_reducible refine load_agg (f := oV) (l := clL a) (C := clA a) aggCl (.tmp 1) ?_ ?_ (w.heap.size) 0 ?_ r0.at rfl ?_); rfl; rfl; rfl)
      have hc := rHas wr a (UInt8.ofNat k)
      rw [hbk] at hc
      refine hc.mono ?_
      clear hc
      rintro e w3 ⟨rfl, hb3⟩
      replace hb := hb.trans (hb3.mono (Nat.le_of_lt hR.lt))
      replace hR := hR.below hb3 hR.lt
      replace r0 := r0.below hb3 r0.lt
      replace r1 := r1.below hb3 r1.lt
      clear hb3
      cases hm : a.mem k with
      | true =>
        have hpt : Hid (p k = false) := Lib.hid (by rw [hpk.out, hm]; rfl)
        have hF : fillC p (k + 1) = fillC p k := by rw [HPS.out, if_neg (by rw [hpt.out]; decide)]
        replace hF := Lib.hid hF
        go_wp2_with fail
        go_roundw
        case rel => exact ⟨k + 1, by omega, by go_num, by rw [hF.out]; exact hR, hb⟩
        case measure => simp [intOf]; omega
      | false =>
        have hpt : Hid (p k = true) := Lib.hid (by rw [hpk.out, hm]; rfl)
        go_wp2_with ((with_reducible refine load_agg (f := oV) (l := clL (fillC p k)) (C := clA (fillC p k)) aggCl (.tmp 3) ?_ ?_ cb 0 ?_ hR.at rfl ?_); rfl; rfl; rfl)
        have hc := rWith w3 (fillC p k) (UInt8.ofNat k)
        rw [hbk] at hc
        refine hc.mono ?_
        clear hc
        rintro e w5 ⟨rfl, hb5⟩
        replace hb := hb.trans (hb5.mono (Nat.le_of_lt hR.lt))
        replace hR := hR.below hb5 hR.lt
        have hF : (fillC p k).add k = fillC p (k + 1) := by rw [HPS.out, if_pos hpt.out]
        rw [hF]
        clear hF
        go_wp2_with (((with_reducible refine store_agg (f := oV) (l := clL (fillC p k)) (l' := clL (fillC p (k + 1))) (t := 80) (C := clA (fillC p (k + 1))) aggCl (.tmp 3) (.tmp 18) ?_ ?_ cb ?_ ?_ ?_ hR ?_ oV_one ?_); rfl; rfl; rfl; rfl; rfl; rfl; (intro w6 hs6 hG6 hz6)))
        go_roundw
        case rel => exact ⟨k + 1, by omega, by go_num, hs6, hb.grown hG6 (Nat.le_of_lt hR.lt) (fun j e => by cases e; exact Nat.le_refl _)⟩
        case measure => simp [intOf]; omega
    · have he : k = 256 := by omega
      subst he
      have hF : fillC p 256 = a.compl := by rw [HP.out]; rfl
      rw [hF] at hR
      clear hF
      generalize hv : a.compl = v at *
      go_wp2_with (first
        | ((with_reducible refine load_agg (f := oV) (l := clL v) (C := clA v) aggCl (.tmp 3) ?_ ?_ cb 0 ?_ hR.at rfl ?_); rfl; rfl; rfl)
        | ((with_reducible refine store_agg (f := oV) (l := [ow 0, ow 0, ow 0, ow 0]) (l' := clL v) (t := 80) (C := clA v) aggCl (.tmp 2) (.tmp 19) ?_ ?_ (w.heap.size + 1) ?_ ?_ ?_ r1 ?_ oV_one ?_); rfl; rfl; rfl; rfl; rfl; rfl; (intro W6 hs6 hG6 hz6)))
      refine bodyPost_ret (results_agg (f := oV) (l := clL v) rfl _ aggCl (w.heap.size + 1) 0 rfl hs6.at) rfl ?_
      exact ⟨by rw [hv]; rfl, hB.grown hG6 hB.size (fun j e => by cases e; omega)⟩

set_option maxHeartbeats 8000000 in
theorem rUnion (w : World) (a : Cl) (b : Cl) : Calls Tryz.prog 42 #[.agg (clA a), .agg (clA b)] w fun e w' => e = .returned (.agg (clA (a.union b))) ∧ Below w.heap.size w w' := by
  go_enter Tryz.func42, Tryz.ntmps42
  go_upto_region 1 with (fail)
  obtain ⟨W, hW, hB, hs, r0, r1, r2⟩ : ∃ W, (((w.alloc (.cells (clA a) 80)).alloc (.cells (clA b) 80)).alloc (.cells #[.int .u64 0, .int .u64 0, .int .u64 0, .int .u64 0] 80)) = W ∧ Below w.heap.size w W ∧ w.heap.size + 3 ≤ W.heap.size ∧ Row oV W (w.heap.size) 80 (clL a) ∧ Row oV W (w.heap.size + 1) 80 (clL b) ∧ Row oV W (w.heap.size + 1 + 1) 80 [ow 0, ow 0, ow 0, ow 0] := by
    refine ⟨_, rfl, (below_al (below_al (below_al (Below.refl _ _) (Nat.le_refl _) _) (Nat.le_refl _) _) (Nat.le_refl _) _), by simp, ?_, ?_, ?_⟩
    all_goals repeat (first | (refine heap_new' _ _ _ ?_; (simp; done)) | (refine (Below.heap_alloc _ _ _ ?_).trans ?_; · (simp <;> omega)))
  rw [hW]
  clear hW
  have hz : Row oV (W.alloc (.cells #[.int .u64 0, .int .u64 0, .int .u64 0, .int .u64 0] 80)) W.heap.size 80 [ow 0, ow 0, ow 0, ow 0] := Row.new _ _ rfl
  go_upto_region 2 with (((with_reducible refine store_agg (f := oV) (l := [ow 0, ow 0, ow 0, ow 0]) (l' := [ow 0, ow 0, ow 0, ow 0]) (t := 80) (C := #[.int .u64 0, .int .u64 0, .int .u64 0, .int .u64 0]) aggCl (.tmp 5) (.tmp 7) ?_ ?_ W.heap.size ?_ ?_ ?_ hz ?_ oV_one ?_); rfl; rfl; rfl; rfl; rfl; rfl; (intro W1 hs1 hG1 hz1)))
  have hb1 := below_row (Below.refl W.heap.size W) hG1
  replace r0 := r0.below hb1 r0.lt
  replace r1 := r1.below hb1 r1.lt
  replace r2 := r2.below hb1 r2.lt
  replace hB := hB.trans (hb1.mono hB.size)
  have hlc : w.heap.size + 1 + 1 < W.heap.size ∧ w.heap.size ≤ W.heap.size := by omega
  generalize hcb : W.heap.size = cb at *
  clear hs hz hG1 hz1 hb1 hcb W
  have HP : ∃ p : Nat → Bool, Hid (p = fun i => a.mem i || b.mem i) := ⟨_, Lib.hid rfl⟩
  obtain ⟨p, HP⟩ := HP
  go_upto_region 3 with (fail)
  go_loopw [6] (fun i wr => ∃ (k : Nat), k ≤ 256 ∧ i = .int .i64 k ∧ Row oV wr cb 80 (clL (fillC p k)) ∧ Below cb W1 wr) (fun i _ => 256 - (intOf i).toNat)
  case atStart => exact ⟨0, by omega, rfl, hs1, Below.refl _ _⟩
  case round =>
    obtain ⟨k, hk, rfl, hR, hb⟩ := hrel
    replace r0 := r0.below hb (by omega)
    replace r1 := r1.below hb (by omega)
    replace r2 := r2.below hb (by omega)
    replace hB := hB.trans (hb.mono (by omega))
    have hcw := hs1.lt
    by_cases hlt : k < 256
    · have hq : (k : Int) < 256 := by omega
      have hbk : (UInt8.ofNat k).toNat = k := by simp; omega
      have hw8 : IntKind.u8.wrap (k : Int) = (k : Int) := by rw [IntKind.wrap_u8]; omega
      have HPS := Lib.hid (fillC_succ p k)
      have hpk : Hid (p k = (a.mem k || b.mem k)) := Lib.hid (by rw [HP.out])
      clear hs1
      go_wp2_with ((with_reducible refine load_agg (f := oV) (l := clL a) (C := clA a) aggCl (.tmp 2) ?_ ?_ (w.heap.size) 0 ?_ r0.at rfl ?_); rfl; rfl; rfl)
      have hc := rHas wr a (UInt8.ofNat k)
      rw [hbk] at hc
      refine hc.mono ?_
      clear hc
      rintro e w3 ⟨rfl, hb3⟩
      replace hb := hb.trans (hb3.mono (Nat.le_of_lt hR.lt))
      replace hR := hR.below hb3 hR.lt
      replace r0 := r0.below hb3 r0.lt
      replace r1 := r1.below hb3 r1.lt
      replace r2 := r2.below hb3 r2.lt
      clear hb3
      cases hm : a.mem k with
      | true =>
        have hpt : Hid (p k = true) := Lib.hid (by rw [hpk.out, hm]; rfl)
        go_wp2_with ((with_reducible refine load_agg (f := oV) (l := clL (fillC p k)) (C := clA (fillC p k)) aggCl (.tmp 5) ?_ ?_ cb 0 ?_ hR.at rfl ?_); rfl; rfl; rfl)
        have hc := rWith w3 (fillC p k) (UInt8.ofNat k)
        rw [hbk] at hc
        refine hc.mono ?_
        clear hc
        rintro e w5 ⟨rfl, hb5⟩
        replace hb := hb.trans (hb5.mono (Nat.le_of_lt hR.lt))
        replace hR := hR.below hb5 hR.lt
        have hF : (fillC p k).add k = fillC p (k + 1) := by rw [HPS.out, if_pos hpt.out]
        rw [hF]
        clear hF
        go_wp2_with (((with_reducible refine store_agg (f := oV) (l := clL (fillC p k)) (l' := clL (fillC p (k + 1))) (t := 80) (C := clA (fillC p (k + 1))) aggCl (.tmp 5) (.tmp 25) ?_ ?_ cb ?_ ?_ ?_ hR ?_ oV_one ?_); rfl; rfl; rfl; rfl; rfl; rfl; (intro w6 hs6 hG6 hz6)))
        go_roundw
        case rel => exact ⟨k + 1, by omega, by go_num, hs6, hb.grown hG6 (Nat.le_of_lt hR.lt) (fun j e => by cases e; exact Nat.le_refl _)⟩
        case measure => simp [intOf]; omega
      | false =>
        go_wp2_with ((with_reducible refine load_agg_w (f := oV) (l := clL b) (C := clA b) aggCl (.tmp 3) ?_ ?_ (w.heap.size + 1) 0 ?_ r1.at rfl ?_); rfl; rfl; rfl)
        have hc := rHas w3 b (UInt8.ofNat k)
        rw [hbk] at hc
        refine hc.mono ?_
        clear hc
        rintro e w4 ⟨rfl, hb4⟩
        replace hb := hb.trans (hb4.mono (Nat.le_of_lt hR.lt))
        replace hR := hR.below hb4 hR.lt
        replace r0 := r0.below hb4 r0.lt
        replace r1 := r1.below hb4 r1.lt
        replace r2 := r2.below hb4 r2.lt
        clear hb4
        cases hn : b.mem k with
        | true =>
          have hpt : Hid (p k = true) := Lib.hid (by rw [hpk.out, hm, hn]; rfl)
          go_wp2_with ((with_reducible refine load_agg (f := oV) (l := clL (fillC p k)) (C := clA (fillC p k)) aggCl (.tmp 5) ?_ ?_ cb 0 ?_ hR.at rfl ?_); rfl; rfl; rfl)
          have hc := rWith w4 (fillC p k) (UInt8.ofNat k)
          rw [hbk] at hc
          refine hc.mono ?_
          clear hc
          rintro e w5 ⟨rfl, hb5⟩
          replace hb := hb.trans (hb5.mono (Nat.le_of_lt hR.lt))
          replace hR := hR.below hb5 hR.lt
          have hF : (fillC p k).add k = fillC p (k + 1) := by rw [HPS.out, if_pos hpt.out]
          rw [hF]
          clear hF
          go_wp2_with (((with_reducible refine store_agg (f := oV) (l := clL (fillC p k)) (l' := clL (fillC p (k + 1))) (t := 80) (C := clA (fillC p (k + 1))) aggCl (.tmp 5) (.tmp 25) ?_ ?_ cb ?_ ?_ ?_ hR ?_ oV_one ?_); rfl; rfl; rfl; rfl; rfl; rfl; (intro w6 hs6 hG6 hz6)))
          go_roundw
          case rel => exact ⟨k + 1, by omega, by go_num, hs6, hb.grown hG6 (Nat.le_of_lt hR.lt) (fun j e => by cases e; exact Nat.le_refl _)⟩
          case measure => simp [intOf]; omega
        | false =>
          have hpt : Hid (p k = false) := Lib.hid (by rw [hpk.out, hm, hn]; rfl)
          have hF : fillC p (k + 1) = fillC p k := by rw [HPS.out, if_neg (by rw [hpt.out]; decide)]
          replace hF := Lib.hid hF
          go_wp2_with fail
          go_roundw
          case rel => exact ⟨k + 1, by omega, by go_num, by rw [hF.out]; exact hR, hb⟩
          case measure => simp [intOf]; omega
    · have he : k = 256 := by omega
      subst he
      have hF : fillC p 256 = a.union b := by rw [HP.out]; exact fill_union a b
      rw [hF] at hR
      clear hF
      generalize hv : a.union b = v at *
      go_wp2_with (first
        | ((with_reducible refine load_agg (f := oV) (l := clL v) (C := clA v) aggCl (.tmp 5) ?_ ?_ cb 0 ?_ hR.at rfl ?_); rfl; rfl; rfl)
        | ((with_reducible refine store_agg (f := oV) (l := [ow 0, ow 0, ow 0, ow 0]) (l' := clL v) (t := 80) (C := clA v) aggCl (.tmp 4) (.tmp 26) ?_ ?_ (w.heap.size + 1 + 1) ?_ ?_ ?_ r2 ?_ oV_one ?_); rfl; rfl; rfl; rfl; rfl; rfl; (intro W6 hs6 hG6 hz6)))
      refine bodyPost_ret (results_agg (f := oV) (l := clL v) rfl _ aggCl (w.heap.size + 1 + 1) 0 rfl hs6.at) rfl ?_
      exact ⟨by rw [hv]; rfl, hB.grown hG6 hB.size (fun j e => by cases e; omega)⟩

set_option maxHeartbeats 8000000 in
theorem rInter (w : World) (a : Cl) (b : Cl) : Calls Tryz.prog 73 #[.agg (clA a), .agg (clA b)] w fun e w' => e = .returned (.agg (clA (a.inter b))) ∧ Below w.heap.size w w' := by
  go_enter Tryz.func73, Tryz.ntmps73
  go_upto_region 1 with (fail)
  obtain ⟨W, hW, hB, hs, r0, r1, r2⟩ : ∃ W, (((w.alloc (.cells (clA a) 80)).alloc (.cells (clA b) 80)).alloc (.cells #[.int .u64 0, .int .u64 0, .int .u64 0, .int .u64 0] 80)) = W ∧ Below w.heap.size w W ∧ w.heap.size + 3 ≤ W.heap.size ∧ Row oV W (w.heap.size) 80 (clL a) ∧ Row oV W (w.heap.size + 1) 80 (clL b) ∧ Row oV W (w.heap.size + 1 + 1) 80 [ow 0, ow 0, ow 0, ow 0] := by
    refine ⟨_, rfl, (below_al (below_al (below_al (Below.refl _ _) (Nat.le_refl _) _) (Nat.le_refl _) _) (Nat.le_refl _) _), by simp, ?_, ?_, ?_⟩
    all_goals repeat (first | (refine heap_new' _ _ _ ?_; (simp; done)) | (refine (Below.heap_alloc _ _ _ ?_).trans ?_; · (simp <;> omega)))
  rw [hW]
  clear hW
  have hz : Row oV (W.alloc (.cells #[.int .u64 0, .int .u64 0, .int .u64 0, .int .u64 0] 80)) W.heap.size 80 [ow 0, ow 0, ow 0, ow 0] := Row.new _ _ rfl
  go_upto_region 2 with (((with_reducible refine store_agg (f := oV) (l := [ow 0, ow 0, ow 0, ow 0]) (l' := [ow 0, ow 0, ow 0, ow 0]) (t := 80) (C := #[.int .u64 0, .int .u64 0, .int .u64 0, .int .u64 0]) aggCl (.tmp 5) (.tmp 7) ?_ ?_ W.heap.size ?_ ?_ ?_ hz ?_ oV_one ?_); rfl; rfl; rfl; rfl; rfl; rfl; (intro W1 hs1 hG1 hz1)))
  have hb1 := below_row (Below.refl W.heap.size W) hG1
  replace r0 := r0.below hb1 r0.lt
  replace r1 := r1.below hb1 r1.lt
  replace r2 := r2.below hb1 r2.lt
  replace hB := hB.trans (hb1.mono hB.size)
  have hlc : w.heap.size + 1 + 1 < W.heap.size ∧ w.heap.size ≤ W.heap.size := by omega
  generalize hcb : W.heap.size = cb at *
  clear hs hz hG1 hz1 hb1 hcb W
  have HP : ∃ p : Nat → Bool, Hid (p = fun i => a.mem i && b.mem i) := ⟨_, Lib.hid rfl⟩
  obtain ⟨p, HP⟩ := HP
  go_upto_region 3 with (fail)
  go_loopw [6] (fun i wr => ∃ (k : Nat), k ≤ 256 ∧ i = .int .i64 k ∧ Row oV wr cb 80 (clL (fillC p k)) ∧ Below cb W1 wr) (fun i _ => 256 - (intOf i).toNat)
  case atStart => exact ⟨0, by omega, rfl, hs1, Below.refl _ _⟩
  case round =>
    obtain ⟨k, hk, rfl, hR, hb⟩ := hrel
    replace r0 := r0.below hb (by omega)
    replace r1 := r1.below hb (by omega)
    replace r2 := r2.below hb (by omega)
    replace hB := hB.trans (hb.mono (by omega))
    have hcw := hs1.lt
    by_cases hlt : k < 256
    · have hq : (k : Int) < 256 := by omega
      have hbk : (UInt8.ofNat k).toNat = k := by simp; omega
      have hw8 : IntKind.u8.wrap (k : Int) = (k : Int) := by rw [IntKind.wrap_u8]; omega
      have HPS := Lib.hid (fillC_succ p k)
      have hpk : Hid (p k = (a.mem k && b.mem k)) := Lib.hid (by rw [HP.out])
      clear hs1
      go_wp2_with ((with_reducible refine load_agg (f := oV) (l := clL a) (C := clA a) aggCl (.tmp 2) ?_ ?_ (w.heap.size) 0 ?_ r0.at rfl ?_); rfl; rfl; rfl)
      have hc := rHas wr a (UInt8.ofNat k)
      rw [hbk] at hc
      refine hc.mono ?_
      clear hc
      rintro e w3 ⟨rfl, hb3⟩
      replace hb := hb.trans (hb3.mono (Nat.le_of_lt hR.lt))
      replace hR := hR.below hb3 hR.lt
      replace r0 := r0.below hb3 r0.lt
      replace r1 := r1.below hb3 r1.lt
      replace r2 := r2.below hb3 r2.lt
      clear hb3
      cases hm : a.mem k with
      | false =>
        have hpt : Hid (p k = false) := Lib.hid (by rw [hpk.out, hm]; rfl)
        have hF : fillC p (k + 1) = fillC p k := by rw [HPS.out, if_neg (by rw [hpt.out]; decide)]
        replace hF := Lib.hid hF
        go_wp2_with fail
        go_roundw
        case rel => exact ⟨k + 1, by omega, by go_num, by rw [hF.out]; exact hR, hb⟩
        case measure => simp [intOf]; omega
      | true =>
        go_wp2_with ((with_reducible refine load_agg_w (f := oV) (l := clL b) (C := clA b) aggCl (.tmp 3) ?_ ?_ (w.heap.size + 1) 0 ?_ r1.at rfl ?_); rfl; rfl; rfl)
        have hc := rHas w3 b (UInt8.ofNat k)
        rw [hbk] at hc
        refine hc.mono ?_
        clear hc
        rintro e w4 ⟨rfl, hb4⟩
        replace hb := hb.trans (hb4.mono (Nat.le_of_lt hR.lt))
        replace hR := hR.below hb4 hR.lt
        replace r0 := r0.below hb4 r0.lt
        replace r1 := r1.below hb4 r1.lt
        replace r2 := r2.below hb4 r2.lt
        clear hb4
        cases hn : b.mem k with
        | true =>
          have hpt : Hid (p k = true) := Lib.hid (by rw [hpk.out, hm, hn]; rfl)
          go_wp2_with ((with_reducible refine load_agg (f := oV) (l := clL (fillC p k)) (C := clA (fillC p k)) aggCl (.tmp 5) ?_ ?_ cb 0 ?_ hR.at rfl ?_); rfl; rfl; rfl)
          have hc := rWith w4 (fillC p k) (UInt8.ofNat k)
          rw [hbk] at hc
          refine hc.mono ?_
          clear hc
          rintro e w5 ⟨rfl, hb5⟩
          replace hb := hb.trans (hb5.mono (Nat.le_of_lt hR.lt))
          replace hR := hR.below hb5 hR.lt
          have hF : (fillC p k).add k = fillC p (k + 1) := by rw [HPS.out, if_pos hpt.out]
          rw [hF]
          clear hF
          go_wp2_with (((with_reducible refine store_agg (f := oV) (l := clL (fillC p k)) (l' := clL (fillC p (k + 1))) (t := 80) (C := clA (fillC p (k + 1))) aggCl (.tmp 5) (.tmp 25) ?_ ?_ cb ?_ ?_ ?_ hR ?_ oV_one ?_); rfl; rfl; rfl; rfl; rfl; rfl; (intro w6 hs6 hG6 hz6)))
          go_roundw
          case rel => exact ⟨k + 1, by omega, by go_num, hs6, hb.grown hG6 (Nat.le_of_lt hR.lt) (fun j e => by cases e; exact Nat.le_refl _)⟩
          case measure => simp [intOf]; omega
        | false =>
          have hpt : Hid (p k = false) := Lib.hid (by rw [hpk.out, hm, hn]; rfl)
          have hF : fillC p (k + 1) = fillC p k := by rw [HPS.out, if_neg (by rw [hpt.out]; decide)]
          replace hF := Lib.hid hF
          go_wp2_with fail
          go_roundw
          case rel => exact ⟨k + 1, by omega, by go_num, by rw [hF.out]; exact hR, hb⟩
          case measure => simp [intOf]; omega
    · have he : k = 256 := by omega
      subst he
      have hF : fillC p 256 = a.inter b := by rw [HP.out]; exact fill_inter a b
      rw [hF] at hR
      clear hF
      generalize hv : a.inter b = v at *
      go_wp2_with (first
        | ((with_reducible refine load_agg (f := oV) (l := clL v) (C := clA v) aggCl (.tmp 5) ?_ ?_ cb 0 ?_ hR.at rfl ?_); rfl; rfl; rfl)
        | ((with_reducible refine store_agg (f := oV) (l := [ow 0, ow 0, ow 0, ow 0]) (l' := clL v) (t := 80) (C := clA v) aggCl (.tmp 4) (.tmp 26) ?_ ?_ (w.heap.size + 1 + 1) ?_ ?_ ?_ r2 ?_ oV_one ?_); rfl; rfl; rfl; rfl; rfl; rfl; (intro W6 hs6 hG6 hz6)))
      refine bodyPost_ret (results_agg (f := oV) (l := clL v) rfl _ aggCl (w.heap.size + 1 + 1) 0 rfl hs6.at) rfl ?_
      exact ⟨by rw [hv]; rfl, hB.grown hG6 hB.size (fun j e => by cases e; omega)⟩

end Go.Proofs.YtgflelodpcgmbaaGreatDoor
/- univocalref01.Of. -/
namespace Go.Proofs.YtgflelodpcgmbaaGreatDoor
open Go Go.RowKit Mem
set_option maxRecDepth 100000

def addAll (l : List UInt8) : Cl := l.foldl (fun c b => c.add b.toNat) zeroC
theorem addAll_succ (l : List UInt8) (k : Nat) (h : k < l.length) : addAll (l.take (k + 1)) = (addAll (l.take k)).add l[k].toNat := by
  unfold addAll; rw [List.take_succ_eq_append_getElem h, List.foldl_append]; rfl

set_option maxHeartbeats 8000000 in
theorem rOf (w : World) (v : Value) (l : List UInt8) (hv : Rd u8V w v l) (hn : l.length ≤ 4294967296) : Calls Tryz.prog 40 #[v] w fun e w' => e = .returned (.agg (clA (addAll l))) ∧ Below w.heap.size w w' := by
  have HV := Lib.hid hv
  obtain ⟨p, c, rfl⟩ := hv.slice
  clear hv
  go_enter Tryz.func40, Tryz.ntmps40
  go_upto_region 1 with (fail)
  obtain ⟨W, hW, hB, hs, r0⟩ : ∃ W, (w.alloc (.cells #[.int .u64 0, .int .u64 0, .int .u64 0, .int .u64 0] 80)) = W ∧ Below w.heap.size w W ∧ w.heap.size + 1 ≤ W.heap.size ∧ Row oV W w.heap.size 80 [ow 0, ow 0, ow 0, ow 0] :=
    ⟨_, rfl, below_al (Below.refl _ _) (Nat.le_refl _) _, by simp, Row.new _ _ rfl⟩
  rw [hW]
  clear hW
  have hz : Row oV (W.alloc (.cells #[.int .u64 0, .int .u64 0, .int .u64 0, .int .u64 0] 80)) W.heap.size 80 [ow 0, ow 0, ow 0, ow 0] := Row.new _ _ rfl
  go_upto_region 2 with (((with_reducible refine store_agg (f := oV) (l := [ow 0, ow 0, ow 0, ow 0]) (l' := [ow 0, ow 0, ow 0, ow 0]) (t := 80) (C := #[.int .u64 0, .int .u64 0, .int .u64 0, .int .u64 0]) aggCl (.tmp 3) (.tmp 5) ?_ ?_ W.heap.size ?_ ?_ ?_ hz ?_ oV_one ?_); rfl; rfl; rfl; rfl; rfl; rfl; (intro W1 hs1 hG1 hz1)))
  have hb1 := below_row (Below.refl W.heap.size W) hG1
  replace r0 := r0.below hb1 r0.lt
  replace hB := hB.trans (hb1.mono hB.size)
  generalize hcb : W.heap.size = cb at *
  have hcb' : w.heap.size + 1 ≤ cb := hs
  clear hs hz hG1 hz1 hb1 hcb W
  go_upto_region 3 with (fail)
  go_loopw [4] (fun i wr => ∃ (k : Nat), k ≤ l.length ∧ i = .int .i64 k ∧ Row oV wr cb 80 (clL (addAll (l.take k))) ∧ Below cb W1 wr) (fun i _ => l.length - (intOf i).toNat)
  case atStart => exact ⟨0, by omega, rfl, hs1, Below.refl _ _⟩
  case round =>
    obtain ⟨k, hk, rfl, hR, hb⟩ := hrel
    have hcw := hs1.lt
    by_cases hlt : k < l.length
    · have hq : (k : Int) < (l.length : Int) := by omega
      obtain ⟨b, o, rfl, hcl⟩ : ∃ b o, p = some ⟨b, o, none⟩ ∧ ∀ X, Below cb W1 X → X.cell? ⟨b, o + k, none⟩ = some (.int .u8 (l[k].toNat : Int)) := by
        rcases HV.out with ⟨_, _, h0⟩ | ⟨b, o, cap, he, hc, hat, hbl⟩
        · rw [h0] at hlt; simp at hlt
        · cases he
          refine ⟨b, o, rfl, fun X hX => ?_⟩
          rw [hX.cell (p := ⟨b, o + k, none⟩) (by show b < cb; omega), hB.cell (p := ⟨b, o + k, none⟩) hbl, hat k hlt, List.getElem?_eq_getElem hlt]
          rfl
      replace hcl := Lib.hid hcl
      go_wp2_with fail
      refine region_headsT (S := fun X => Below cb W1 X ∧ Row oV X cb 80 (clL (addAll (l.take k)))) 6 rfl (by kernel_rfl) ⟨hb.drew, hR⟩ fun hS => ?_
      refine headsT_takeD (i := 0) (d := 12) (v := .agg (clA (addAll (l.take k)))) (by kernel_rfl) rfl rfl (by omega) (by kernel_rfl) (by kernel_rfl) (fun c a w h => h) (yieldsIf_load (f := oV) (l := clL (addAll (l.take k))) aggCl (.tmp 3) rfl cb 0 rfl (fun W' h => h.2.at) rfl rfl) hS ?_
      simp only [List.setIfInBounds_toArray, List.set_cons_succ, List.set_cons_zero]
      refine headsT_takeD (i := 1) (d := 13) (v := .slice (some ⟨b, o, none⟩) l.length c) (by kernel_rfl) rfl rfl (by omega) (by kernel_rfl) (by kernel_rfl) (fun c a w h => h) (yieldsIf_op rfl (fun w => by first | rfl | kernel_rfl | (go_simp; done))) hS ?_
      simp only [List.setIfInBounds_toArray, List.set_cons_succ, List.set_cons_zero]
      refine headsT_takeD (i := 2) (d := 14) (v := .int .i64 k) (by kernel_rfl) rfl rfl (by omega) (by kernel_rfl) (by kernel_rfl) (fun c a w h => h) (yieldsIf_op rfl (fun w => by first | rfl | kernel_rfl | (go_simp; done))) hS ?_
      simp only [List.setIfInBounds_toArray, List.set_cons_succ, List.set_cons_zero]
      refine headsT_takeD (i := 3) (d := 15) (v := .pointer (some ⟨b, o + k, none⟩)) (by kernel_rfl) rfl rfl (by omega) (by kernel_rfl) (by kernel_rfl) (fun c a w h => h) (yieldsIf_op rfl (fun w => by go_simp)) hS ?_
      simp only [List.setIfInBounds_toArray, List.set_cons_succ, List.set_cons_zero]
      refine headsT_takeD (i := 4) (d := 16) (v := .int .u8 (l[k].toNat : Int)) (by kernel_rfl) rfl rfl (by omega) (by kernel_rfl) (by kernel_rfl) (fun c a w h => h) (.inl ⟨by first | rfl | kernel_rfl, fun W' h => by have q0 := hcl.out W' h.1; go_simp⟩) hS ?_
      simp only [List.setIfInBounds_toArray, List.set_cons_succ, List.set_cons_zero]
      refine headsT_ready (rs := [5]) (by kernel_rfl) (by simp) (AllReadyT.cons (by omega) rfl (fun K' hK => ?_) AllReadyT.nil)
      refine callD (d := 17) (g := 74) (args := #[.agg (clA (addAll (l.take k))), .int .u8 (l[k].toNat : Int)]) rfl rfl (by first | kernel_rfl | (simp [execOp, resolve, invoke, Act.eval]) | go_simp) ?_
      refine (rWith _ (addAll (l.take k)) l[k]).mono ?_
      rintro e Wc ⟨rfl, hBc⟩
      replace hS := And.intro (hS.1.trans (hBc.mono (Nat.le_of_lt hS.2.lt))) (hS.2.below hBc hS.2.lt)
      refine ⟨_, rfl, hK.out _ _ hS fun _ => ?_⟩
      clear hK hBc
      simp only [List.setIfInBounds_toArray, List.set_cons_succ, List.set_cons_zero]
      refine headsT_tail (by kernel_rfl) ?_
      simp only [List.drop]
      obtain ⟨hb, hR⟩ := hS
      have hF := addAll_succ l k hlt
      rw [← hF]
      replace hF := Lib.hid hF
      generalize hv : addAll (l.take (k + 1)) = v at *
      go_wp2_with (((with_reducible refine store_agg (f := oV) (l := clL (addAll (l.take k))) (l' := clL v) (t := 80) (C := clA v) aggCl (.tmp 3) (.tmp 17) ?_ ?_ cb ?_ ?_ ?_ hR ?_ oV_one ?_); rfl; rfl; rfl; rfl; rfl; rfl; (intro w6 hs6 hG6 hz6)))
      go_roundw
      case rel => exact ⟨k + 1, by omega, by go_num, by rw [hv]; exact hs6, hb.grown hG6 (Nat.le_of_lt hR.lt) (fun j e => by cases e; exact Nat.le_refl _)⟩
      case measure => simp [intOf]; omega
    · have he : k = l.length := by omega
      subst he
      rw [List.take_length] at hR
      have hq : ¬ (l.length : Int) < (l.length : Int) := by omega
      replace hB := hB.trans (hb.mono (by omega))
      replace r0 := r0.below hb (by omega)
      generalize hv : addAll l = v at *
      go_wp2_with (first
        | ((with_reducible refine load_agg (f := oV) (l := clL v) (C := clA v) aggCl (.tmp 3) ?_ ?_ cb 0 ?_ hR.at rfl ?_); rfl; rfl; rfl)
        | ((with_reducible refine store_agg (f := oV) (l := [ow 0, ow 0, ow 0, ow 0]) (l' := clL v) (t := 80) (C := clA v) aggCl (.tmp 2) (.tmp 18) ?_ ?_ w.heap.size ?_ ?_ ?_ r0 ?_ oV_one ?_); rfl; rfl; rfl; rfl; rfl; rfl; (intro W6 hs6 hG6 hz6)))
      refine bodyPost_ret (results_agg (f := oV) (l := clL v) rfl _ aggCl w.heap.size 0 rfl hs6.at) rfl ?_
      exact ⟨by first | rfl | (rw [hv]; rfl), hB.grown hG6 hB.size (fun j e => by cases e; omega)⟩
end Go.Proofs.YtgflelodpcgmbaaGreatDoor
