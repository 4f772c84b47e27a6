/- univocallaw25.sanity returns true. -/
import Derived.Test.YtgflelodpcgmbaaGreatDoorMEqNS
namespace Go.Proofs.YtgflelodpcgmbaaGreatDoor
open Go Go.RowKit Mem
set_option maxRecDepth 100000

theorem row3 {w : World} {n : Nat} {t : TypeId} {a b c : OC} (h : Row oV w n t [a, b, c]) : w.cell? ⟨n, 0, none⟩ = some a.1 ∧ w.cell? ⟨n, 1, none⟩ = some b.1 ∧ w.cell? ⟨n, 2, none⟩ = some c.1 := by
  refine ⟨?_, ?_, ?_⟩ <;> (rw [h.cell?]; rfl)
theorem row2 {w : World} {n : Nat} {t : TypeId} {a b : OC} (h : Row oV w n t [a, b]) : w.cell? ⟨n, 0, none⟩ = some a.1 ∧ w.cell? ⟨n, 1, none⟩ = some b.1 := by
  refine ⟨?_, ?_⟩ <;> (rw [h.cell?]; rfl)

set_option maxHeartbeats 32000000 in
theorem sanity1 (w : World) : Calls Tryz.prog 8 #[] w fun e w' => e = .returned (.bool true) ∧ Below w.heap.size w w' := by
  go_enter Tryz.func8, Tryz.ntmps8
  go_wp2_with fail
  refine (exampleN _).mono ?_
  rintro e W0 ⟨pc, pr, pe, rfl, hN, hB⟩
  have hZ : Row oV (W0.alloc (.cells #[.slice none 0 0, .slice none 0 0, .slice none 0 0] 26)) W0.heap.size 26 [on, on, on] := Row.new _ _ rfl
  go_upto_region 2 with (((with_reducible refine store_agg (f := oV) (l := [on, on, on]) (l' := [slO pc exN.cls.length 2, slO pr exN.rows.length 2, slO pe exN.ends.length 2]) (t := 26) (C := #[.slice pc exN.cls.length 2, .slice pr exN.rows.length 2, .slice pe exN.ends.length 2]) aggNorm (.tmp 1) (.tmp 17) ?_ ?_ W0.heap.size ?_ ?_ ?_ hZ ?_ oV_one ?_); rfl; rfl; rfl; rfl; rfl; rfl; (intro X hs hG hz)))
  have hBX := below_row (Below.refl W0.heap.size W0) hG
  have HN := Lib.hid (hN.below hBX)
  replace hB := hB.trans (hBX.mono hB.size)
  have HR := Lib.hid hs
  have hlr : W0.heap.size < X.heap.size := hs.lt
  clear hBX hs hG hz hZ hN
  generalize W0.heap.size = n1 at *
  go_wp2_with (first
    | ((with_reducible refine load_agg (f := oV) (l := [slO pc exN.cls.length 2, slO pr exN.rows.length 2, slO pe exN.ends.length 2]) (C := #[.slice pc exN.cls.length 2, .slice pr exN.rows.length 2, .slice pe exN.ends.length 2]) aggNorm (.tmp 1) ?_ ?_ n1 0 ?_ HR.out.at rfl ?_); rfl; rfl; rfl)
    | ((with_reducible refine convert_mark (.tmp 20) ?_ ?_ Tryz.underlying29 Tryz.underlying5 X.heap.size 0 3 3 3 ?_ (shape_new X _ _) ?_); rfl; rfl; rfl; (refine Pause.back ?_)))
  have hRd : Rd u8V ((X.alloc (.cells #[.int .u8 120, .int .u8 97, .int .u8 99] 5)).freeze ⟨X.heap.size, 3, none⟩ 1) (.slice (some ⟨X.heap.size, 0, none⟩) 3 3) [120, 97, 99] := lit_rd X [120, 97, 99] 5 #[.int .u8 120, .int .u8 97, .int .u8 99] rfl 3
  have hb : Below X.heap.size X ((X.alloc (.cells #[.int .u8 120, .int .u8 97, .int .u8 99] 5)).freeze ⟨X.heap.size, 3, none⟩ 1) := lit_below X _ _
  generalize ((X.alloc (.cells #[.int .u8 120, .int .u8 97, .int .u8 99] 5)).freeze ⟨X.heap.size, 3, none⟩ 1) = Y1 at *
  replace HN := Lib.hid (HN.out.below hb)
  replace HR := Lib.hid (HR.out.below hb hlr)
  replace hlr : n1 < Y1.heap.size := Nat.lt_of_lt_of_le hlr hb.size
  replace hB := hB.trans (hb.mono hB.size)
  clear hb
  generalize X.heap.size = mY1 at *
  refine Pause.out ?_
  go_wp2_with fail
  refine (nRun Y1 exN pc pr pe (some ⟨mY1, 0, none⟩) 2 2 2 3 [120, 97, 99] HN.out hRd (by simp) exCov).mono ?_
  rintro e Z1 ⟨hb, ⟨hno, rfl⟩ | ⟨_, l, hl, po, ko, rfl, hO⟩⟩
  · rw [acc1] at hno; cases hno
  obtain rfl : l = [120, 98] := hl.out.trans out1
  clear hl
  clear hRd
  replace HN := Lib.hid (HN.out.below hb)
  replace HR := Lib.hid (HR.out.below hb hlr)
  replace hlr : n1 < Z1.heap.size := Nat.lt_of_lt_of_le hlr hb.size
  replace hB := hB.trans (hb.mono hB.size)
  have HO := Lib.hid hO.rd
  clear hO
  clear hb
  go_wp2_with (first
    | ((with_reducible refine load_agg (f := oV) (l := [slO pc exN.cls.length 2, slO pr exN.rows.length 2, slO pe exN.ends.length 2]) (C := #[.slice pc exN.cls.length 2, .slice pr exN.rows.length 2, .slice pe exN.ends.length 2]) aggNorm (.tmp 1) ?_ ?_ n1 0 ?_ HR.out.at rfl ?_); rfl; rfl; rfl)
    | ((with_reducible refine convert_mark (.tmp 27) ?_ ?_ Tryz.underlying29 Tryz.underlying5 Z1.heap.size 0 2 2 2 ?_ (shape_new Z1 _ _) ?_); rfl; rfl; rfl; (refine Pause.back ?_)))
  have hRd : Rd u8V ((Z1.alloc (.cells #[.int .u8 97, .int .u8 97] 5)).freeze ⟨Z1.heap.size, 2, none⟩ 1) (.slice (some ⟨Z1.heap.size, 0, none⟩) 2 2) [97, 97] := lit_rd Z1 [97, 97] 5 #[.int .u8 97, .int .u8 97] rfl 2
  have hb : Below Z1.heap.size Z1 ((Z1.alloc (.cells #[.int .u8 97, .int .u8 97] 5)).freeze ⟨Z1.heap.size, 2, none⟩ 1) := lit_below Z1 _ _
  generalize ((Z1.alloc (.cells #[.int .u8 97, .int .u8 97] 5)).freeze ⟨Z1.heap.size, 2, none⟩ 1) = Y2 at *
  replace HN := Lib.hid (HN.out.below hb)
  replace HO := Lib.hid (HO.out.below hb)
  replace HR := Lib.hid (HR.out.below hb hlr)
  replace hlr : n1 < Y2.heap.size := Nat.lt_of_lt_of_le hlr hb.size
  replace hB := hB.trans (hb.mono hB.size)
  clear hb
  generalize Z1.heap.size = mY2 at *
  refine Pause.out ?_
  go_wp2_with fail
  refine (nRun Y2 exN pc pr pe (some ⟨mY2, 0, none⟩) 2 2 2 2 [97, 97] HN.out hRd (by simp) exCov).mono ?_
  rintro e Z2 ⟨hb, ⟨_, rfl⟩ | ⟨hyes, _⟩⟩
  rotate_left
  · rw [acc2] at hyes; cases hyes
  clear hRd
  replace HN := Lib.hid (HN.out.below hb)
  replace HO := Lib.hid (HO.out.below hb)
  replace HR := Lib.hid (HR.out.below hb hlr)
  replace hlr : n1 < Z2.heap.size := Nat.lt_of_lt_of_le hlr hb.size
  replace hB := hB.trans (hb.mono hB.size)
  clear hb
  go_wp2_with (first
    | ((with_reducible refine load_agg (f := oV) (l := [slO pc exN.cls.length 2, slO pr exN.rows.length 2, slO pe exN.ends.length 2]) (C := #[.slice pc exN.cls.length 2, .slice pr exN.rows.length 2, .slice pe exN.ends.length 2]) aggNorm (.tmp 1) ?_ ?_ n1 0 ?_ HR.out.at rfl ?_); rfl; rfl; rfl)
    | ((with_reducible refine convert_mark (.tmp 34) ?_ ?_ Tryz.underlying29 Tryz.underlying5 Z2.heap.size 0 2 2 2 ?_ (shape_new Z2 _ _) ?_); rfl; rfl; rfl; (refine Pause.back ?_)))
  have hRd : Rd u8V ((Z2.alloc (.cells #[.int .u8 120, .int .u8 97] 5)).freeze ⟨Z2.heap.size, 2, none⟩ 1) (.slice (some ⟨Z2.heap.size, 0, none⟩) 2 2) [120, 97] := lit_rd Z2 [120, 97] 5 #[.int .u8 120, .int .u8 97] rfl 2
  have hb : Below Z2.heap.size Z2 ((Z2.alloc (.cells #[.int .u8 120, .int .u8 97] 5)).freeze ⟨Z2.heap.size, 2, none⟩ 1) := lit_below Z2 _ _
  generalize ((Z2.alloc (.cells #[.int .u8 120, .int .u8 97] 5)).freeze ⟨Z2.heap.size, 2, none⟩ 1) = Y3 at *
  replace HN := Lib.hid (HN.out.below hb)
  replace HO := Lib.hid (HO.out.below hb)
  replace HR := Lib.hid (HR.out.below hb hlr)
  replace hlr : n1 < Y3.heap.size := Nat.lt_of_lt_of_le hlr hb.size
  replace hB := hB.trans (hb.mono hB.size)
  clear hb
  generalize Z2.heap.size = mY3 at *
  refine Pause.out ?_
  go_wp2_with fail
  refine (nRun Y3 exN pc pr pe (some ⟨mY3, 0, none⟩) 2 2 2 2 [120, 97] HN.out hRd (by simp) exCov).mono ?_
  rintro e Z3 ⟨hb, ⟨_, rfl⟩ | ⟨hyes, _⟩⟩
  rotate_left
  · rw [acc3] at hyes; cases hyes
  clear hRd
  replace HN := Lib.hid (HN.out.below hb)
  replace HO := Lib.hid (HO.out.below hb)
  replace HR := Lib.hid (HR.out.below hb hlr)
  replace hlr : n1 < Z3.heap.size := Nat.lt_of_lt_of_le hlr hb.size
  replace hB := hB.trans (hb.mono hB.size)
  clear hb
  go_wp2_with (first
    | ((with_reducible refine load_agg (f := oV) (l := [slO pc exN.cls.length 2, slO pr exN.rows.length 2, slO pe exN.ends.length 2]) (C := #[.slice pc exN.cls.length 2, .slice pr exN.rows.length 2, .slice pe exN.ends.length 2]) aggNorm (.tmp 1) ?_ ?_ n1 0 ?_ HR.out.at rfl ?_); rfl; rfl; rfl)
    | ((with_reducible refine convert_mark (.tmp 41) ?_ ?_ Tryz.underlying29 Tryz.underlying5 Z3.heap.size 0 2 2 2 ?_ (shape_new Z3 _ _) ?_); rfl; rfl; rfl; (refine Pause.back ?_)))
  have hRd : Rd u8V ((Z3.alloc (.cells #[.int .u8 97, .int .u8 98] 5)).freeze ⟨Z3.heap.size, 2, none⟩ 1) (.slice (some ⟨Z3.heap.size, 0, none⟩) 2 2) [97, 98] := lit_rd Z3 [97, 98] 5 #[.int .u8 97, .int .u8 98] rfl 2
  have hb : Below Z3.heap.size Z3 ((Z3.alloc (.cells #[.int .u8 97, .int .u8 98] 5)).freeze ⟨Z3.heap.size, 2, none⟩ 1) := lit_below Z3 _ _
  generalize ((Z3.alloc (.cells #[.int .u8 97, .int .u8 98] 5)).freeze ⟨Z3.heap.size, 2, none⟩ 1) = Y4 at *
  replace HN := Lib.hid (HN.out.below hb)
  replace HO := Lib.hid (HO.out.below hb)
  replace HR := Lib.hid (HR.out.below hb hlr)
  replace hlr : n1 < Y4.heap.size := Nat.lt_of_lt_of_le hlr hb.size
  replace hB := hB.trans (hb.mono hB.size)
  clear hb
  generalize Z3.heap.size = mY4 at *
  refine Pause.out ?_
  go_wp2_with fail
  refine (nRefusals Y4 exN pc pr pe (some ⟨mY4, 0, none⟩) 2 2 2 2 [97, 98] 2 HN.out hRd (by decide) (by decide) inc1 exCov exValid scope1).mono ?_
  rintro e Z4 ⟨rfl, hb⟩
  rw [ref1]
  clear hRd
  replace HN := Lib.hid (HN.out.below hb)
  replace HO := Lib.hid (HO.out.below hb)
  replace HR := Lib.hid (HR.out.below hb hlr)
  replace hlr : n1 < Z4.heap.size := Nat.lt_of_lt_of_le hlr hb.size
  replace hB := hB.trans (hb.mono hB.size)
  clear hb
  go_wp2_with ((with_reducible refine load_agg (f := oV) (l := [slO pc exN.cls.length 2, slO pr exN.rows.length 2, slO pe exN.ends.length 2]) (C := #[.slice pc exN.cls.length 2, .slice pr exN.rows.length 2, .slice pe exN.ends.length 2]) aggNorm (.tmp 1) ?_ ?_ n1 0 ?_ HR.out.at rfl ?_); rfl; rfl; rfl)
  refine (nMeets0 Z4 exN pc pr pe 2 2 2 HN.out exValid).mono ?_
  rintro e Z5 ⟨rfl, hb⟩
  replace HN := Lib.hid (HN.out.below hb)
  replace HO := Lib.hid (HO.out.below hb)
  replace HR := Lib.hid (HR.out.below hb hlr)
  replace hlr : n1 < Z5.heap.size := Nat.lt_of_lt_of_le hlr hb.size
  replace hB := hB.trans (hb.mono hB.size)
  clear hb
  have hZ : Row oV (Z5.alloc (.cells #[.int .i64 0, .bool false] 28)) Z5.heap.size 28 [oi 0, ob false] := Row.new _ _ rfl
  go_upto_region 8 with (((with_reducible refine store_agg (f := oV) (l := [oi 0, ob false]) (l' := [oi 1, ob false]) (t := 28) (C := #[.int .i64 1, .bool false]) aggNS (.tmp 13) (.tmp 54) ?_ ?_ Z5.heap.size ?_ ?_ ?_ hZ ?_ oV_one ?_); rfl; rfl; rfl; rfl; rfl; rfl; (intro W hs hG hz)))
  have hb := below_row (Below.refl Z5.heap.size Z5) hG
  replace HN := Lib.hid (HN.out.below hb)
  replace HO := Lib.hid (HO.out.below hb)
  replace HR := Lib.hid (HR.out.below hb hlr)
  replace hlr : n1 < W.heap.size := Nat.lt_of_lt_of_le hlr hb.size
  replace hB := hB.trans (hb.mono hB.size)
  have HS := Lib.hid hs
  have hls : Z5.heap.size < W.heap.size := hs.lt
  clear hb hs hG hz hZ
  generalize Z5.heap.size = n13 at *
  rw [put_none]
  go_cut [14, 15, 16] (fun s14 s15 s16 wx => ∃ (u : OC), s14 = oV u ∧ s15 = .bool false ∧ s16 = .int .i64 0 ∧ Rd u8V wx (oV u) [97] ∧ Below W.heap.size W wx)
  · refine wp_region_held_drew (S := fun X => Below W.heap.size W X) rfl (Below.refl _ _).drew fun hS => ?_
    refine takeD (i := 0) (d := 56) (v := .agg #[.slice pc exN.cls.length 2, .slice pr exN.rows.length 2, .slice pe exN.ends.length 2]) rfl rfl (by kernel_rfl) (by kernel_rfl) (by kernel_rfl) (fun c a w h => h) (yieldsIf_load (f := oV) (l := [slO pc exN.cls.length 2, slO pr exN.rows.length 2, slO pe exN.ends.length 2]) aggNorm (.tmp 1) rfl n1 0 rfl (fun W' h => (HR.out.below h hlr).at) rfl rfl) hS ?_
    simp only [List.setIfInBounds_toArray, List.set_cons_succ, List.set_cons_zero]
    refine wpAnyH_ready (rs := [1, 3]) (by kernel_rfl) (by simp) (AllReadyH.cons rfl (fun K' hK => ?_) (AllReadyH.cons rfl (fun K' hK => ?_) AllReadyH.nil))
    · refine callD (d := 57) (g := 28) (args := #[.int .u8 0]) rfl rfl (by first | kernel_rfl | (simp [execOp, resolve, invoke, Act.eval]) | go_simp) ?_
      refine (small0 _).mono ?_
      rintro e A1 ⟨v1, rfl, hF1, hBx⟩
      obtain ⟨sb1, so1, sc1, bb1, bo1, bc1, _, _, _, rfl, _⟩ := id hF1
      replace hS := hS.trans (hBx.mono hS.size)
      refine ⟨_, rfl, hK.out _ _ hS fun _ => ?_⟩
      clear hK
      simp only [List.setIfInBounds_toArray, List.set_cons_succ, List.set_cons_zero]
      refine wpAnyH_ready (rs := [2, 3]) (by kernel_rfl) (by simp) (AllReadyH.cons rfl (fun K' hK => ?_) (AllReadyH.cons rfl (fun K' hK => ?_) AllReadyH.nil))
      · refine callD (d := 58) (g := 28) (args := #[.int .u8 0]) rfl rfl (by first | kernel_rfl | (simp [execOp, resolve, invoke, Act.eval]) | go_simp) ?_
        refine (small0 _).mono ?_
        rintro e A2 ⟨v2, rfl, hF2, hBx⟩
        obtain ⟨sb2, so2, sc2, bb2, bo2, bc2, _, _, _, rfl, _⟩ := id hF2
        replace hF1 := hF1.below hBx
        replace hS := hS.trans (hBx.mono hS.size)
        refine ⟨_, rfl, hK.out _ _ hS fun _ => ?_⟩
        clear hK
        simp only [List.setIfInBounds_toArray, List.set_cons_succ, List.set_cons_zero]
        refine wpAnyH_ready (rs := [3]) (by kernel_rfl) (by simp) (AllReadyH.cons rfl (fun K' hK => ?_) AllReadyH.nil)
        · have hBx := below_al (Below.refl A2.heap.size A2) (Nat.le_refl _) (.cells #[.int .u8 97, .int .u8 98] 5)
          have hsh := shape_new A2 #[.int .u8 97, .int .u8 98] 5
          have hRd : Rd u8V (A2.alloc (.cells #[.int .u8 97, .int .u8 98] 5)) (.slice (some ⟨A2.heap.size, 0, none⟩) 2 2) [97, 98] := .inr ⟨A2.heap.size, 0, 2, rfl, Nat.le_refl _, (Row.new (f := u8V) (l := [97, 98]) A2 _ rfl).at, by simp⟩
          have hll : A2.heap.size < (A2.alloc (.cells #[.int .u8 97, .int .u8 98] 5)).heap.size := by simp
          refine valueD (d := 59) (v := .slice (some ⟨A2.heap.size, 0, none⟩) 2 2) (w' := A2.alloc (.cells #[.int .u8 97, .int .u8 98] 5)) rfl rfl (by first | rfl | kernel_rfl | (simp [execOp, go_sem]; done)) ?_
          have hlo : W.heap.size ≤ A2.heap.size := hS.size
          generalize (A2.alloc (.cells #[.int .u8 97, .int .u8 98] 5)) = A3 at *
          replace hF1 := hF1.below hBx
          replace hF2 := hF2.below hBx
          replace hS := hS.trans (hBx.mono hS.size)
          refine hK.out _ _ hS fun _ => ?_
          clear hK
          simp only [List.setIfInBounds_toArray, List.set_cons_succ, List.set_cons_zero]
          refine wpAnyH_ready (rs := [4]) (by kernel_rfl) (by simp) (AllReadyH.cons rfl (fun K' hK => ?_) AllReadyH.nil)
          · have hBx : Below W.heap.size A3 (A3.freeze ⟨A2.heap.size, 2, none⟩ 1) := freeze_below _ _ hlo
            refine markD (.tmp 59) (d := 60) rfl rfl rfl Tryz.underlying29 Tryz.underlying5 A2.heap.size 0 2 2 2 rfl hsh ?_
            replace hF1 := hF1.freeze ⟨A2.heap.size, 2, none⟩ 1
            replace hF2 := hF2.freeze ⟨A2.heap.size, 2, none⟩ 1
            replace hRd := freeze_rd ⟨A2.heap.size, 2, none⟩ 1 hRd
            replace hll : A2.heap.size < (A3.freeze ⟨A2.heap.size, 2, none⟩ 1).heap.size := by rw [freeze_size]; exact hll
            generalize (A3.freeze ⟨A2.heap.size, 2, none⟩ 1) = A4 at *
            clear hsh
            replace hS := hS.trans hBx
            refine hK.out _ _ hS fun _ => ?_
            clear hK
            simp only [List.setIfInBounds_toArray, List.set_cons_succ, List.set_cons_zero]
            refine takeD (i := 5) (d := 61) (v := .agg #[.slice (some ⟨A2.heap.size, 0, none⟩) 2 2, .int .i64 2]) rfl rfl (by kernel_rfl) (by kernel_rfl) (by kernel_rfl) (fun c a w h => h) (yieldsIf_op rfl (fun w => by first | rfl | kernel_rfl | (go_simp; done))) hS ?_
            simp only [List.setIfInBounds_toArray, List.set_cons_succ, List.set_cons_zero]
            refine takeD (i := 6) (d := 62) (v := .agg #[.slice (some ⟨sb1, so1, none⟩) 1 sc1, .slice (some ⟨bb1, bo1, none⟩) 1 bc1, .slice (some ⟨sb2, so2, none⟩) 1 sc2, .slice (some ⟨bb2, bo2, none⟩) 1 bc2, .slice (some ⟨A2.heap.size, 0, none⟩) 2 2, .int .i64 2]) rfl rfl (by kernel_rfl) (by kernel_rfl) (by kernel_rfl) (fun c a w h => h) (yieldsIf_op rfl (fun w => by first | rfl | kernel_rfl | (go_simp; done))) hS ?_
            simp only [List.setIfInBounds_toArray, List.set_cons_succ, List.set_cons_zero]
            refine wpAnyH_ready (rs := [7]) (by kernel_rfl) (by simp) (AllReadyH.cons rfl (fun K' hK => ?_) AllReadyH.nil)
            refine callD (d := 63) (g := 27) (args := #[.agg #[.slice pc exN.cls.length 2, .slice pr exN.rows.length 2, .slice pe exN.ends.length 2], .agg #[.slice (some ⟨sb1, so1, none⟩) 1 sc1, .slice (some ⟨bb1, bo1, none⟩) 1 bc1, .slice (some ⟨sb2, so2, none⟩) 1 sc2, .slice (some ⟨bb2, bo2, none⟩) 1 bc2, .slice (some ⟨A2.heap.size, 0, none⟩) 2 2, .int .i64 2]]) rfl rfl (by first | kernel_rfl | (simp [execOp, resolve, invoke, Act.eval]) | go_simp) ?_
            refine (nMeets A4 exN pc pr pe (some ⟨sb1, so1, none⟩) (some ⟨bb1, bo1, none⟩) (some ⟨sb2, so2, none⟩) (some ⟨bb2, bo2, none⟩) 2 2 2 1 sc1 1 bc1 1 sc2 1 bc2 A2.heap.size 0 2 [97, 98] 2 ⟨#[120]⟩ (Lib.hid nameX) (HN.out.below hS) hF1 hF2 hRd hll (by decide) (by decide) inc1 exCov exValid scope1).mono ?_
            rintro e XM ⟨u, b, rfl, hBx, hres⟩
            replace hS := hS.trans (hBx.mono hS.size)
            refine meets_word hres fun hb hr => ?_
            subst hb
            refine ⟨_, rfl, hK.out _ _ hS fun _ => ?_⟩
            clear hK
            simp only [List.setIfInBounds_toArray, List.set_cons_succ, List.set_cons_zero]
            refine takeD (i := 8) (d := 55) (v := .tuple #[oV u, .bool false, .int .i64 0]) rfl rfl (by kernel_rfl) (by kernel_rfl) (by kernel_rfl) (fun c a w h => h) (yieldsIf_op rfl (fun w => by first | rfl | kernel_rfl | (go_simp; done))) hS ?_
            simp only [List.setIfInBounds_toArray, List.set_cons_succ, List.set_cons_zero]
            refine takeD (i := 9) (d := 64) (v := oV u) rfl rfl (by kernel_rfl) (by kernel_rfl) (by kernel_rfl) (fun c a w h => h) (yieldsIf_op rfl (fun w => by first | rfl | kernel_rfl | (go_simp; done))) hS ?_
            simp only [List.setIfInBounds_toArray, List.set_cons_succ, List.set_cons_zero]
            refine takeD (i := 10) (d := 65) (v := .bool false) rfl rfl (by kernel_rfl) (by kernel_rfl) (by kernel_rfl) (fun c a w h => h) (yieldsIf_op rfl (fun w => by first | rfl | kernel_rfl | (go_simp; done))) hS ?_
            simp only [List.setIfInBounds_toArray, List.set_cons_succ, List.set_cons_zero]
            refine takeD (i := 11) (d := 66) (v := .int .i64 0) rfl rfl (by kernel_rfl) (by kernel_rfl) (by kernel_rfl) (fun c a w h => h) (yieldsIf_op rfl (fun w => by first | rfl | kernel_rfl | (go_simp; done))) hS ?_
            simp only [List.setIfInBounds_toArray, List.set_cons_succ, List.set_cons_zero]
            refine takeD (i := 12) (d := 14) (v := oV u) rfl rfl (by kernel_rfl) (by kernel_rfl) (by kernel_rfl) (fun c a w h => h) (yieldsIf_op rfl (fun w => by first | rfl | kernel_rfl | (go_simp; done))) hS ?_
            simp only [List.setIfInBounds_toArray, List.set_cons_succ, List.set_cons_zero]
            refine takeD (i := 13) (d := 15) (v := .bool false) rfl rfl (by kernel_rfl) (by kernel_rfl) (by kernel_rfl) (fun c a w h => h) (yieldsIf_op rfl (fun w => by first | rfl | kernel_rfl | (go_simp; done))) hS ?_
            simp only [List.setIfInBounds_toArray, List.set_cons_succ, List.set_cons_zero]
            refine takeD (i := 14) (d := 16) (v := .int .i64 0) rfl rfl (by kernel_rfl) (by kernel_rfl) (by kernel_rfl) (fun c a w h => h) (yieldsIf_op rfl (fun w => by first | rfl | kernel_rfl | (go_simp; done))) hS ?_
            simp only [List.setIfInBounds_toArray, List.set_cons_succ, List.set_cons_zero]
            refine wpAnyH_done (by kernel_rfl) ?_ _
            go_wp2
            go_meet
            exact ⟨u, rfl, rfl, rfl, hr, hS⟩
      · have hBx := below_al (Below.refl A1.heap.size A1) (Nat.le_refl _) (.cells #[.int .u8 97, .int .u8 98] 5)
        have hsh := shape_new A1 #[.int .u8 97, .int .u8 98] 5
        have hRd : Rd u8V (A1.alloc (.cells #[.int .u8 97, .int .u8 98] 5)) (.slice (some ⟨A1.heap.size, 0, none⟩) 2 2) [97, 98] := .inr ⟨A1.heap.size, 0, 2, rfl, Nat.le_refl _, (Row.new (f := u8V) (l := [97, 98]) A1 _ rfl).at, by simp⟩
        have hll : A1.heap.size < (A1.alloc (.cells #[.int .u8 97, .int .u8 98] 5)).heap.size := by simp
        refine valueD (d := 59) (v := .slice (some ⟨A1.heap.size, 0, none⟩) 2 2) (w' := A1.alloc (.cells #[.int .u8 97, .int .u8 98] 5)) rfl rfl (by first | rfl | kernel_rfl | (simp [execOp, go_sem]; done)) ?_
        have hlo : W.heap.size ≤ A1.heap.size := hS.size
        generalize (A1.alloc (.cells #[.int .u8 97, .int .u8 98] 5)) = A5 at *
        replace hF1 := hF1.below hBx
        replace hS := hS.trans (hBx.mono hS.size)
        refine hK.out _ _ hS fun _ => ?_
        clear hK
        simp only [List.setIfInBounds_toArray, List.set_cons_succ, List.set_cons_zero]
        refine wpAnyH_ready (rs := [2, 4]) (by kernel_rfl) (by simp) (AllReadyH.cons rfl (fun K' hK => ?_) (AllReadyH.cons rfl (fun K' hK => ?_) AllReadyH.nil))
        · refine callD (d := 58) (g := 28) (args := #[.int .u8 0]) rfl rfl (by first | kernel_rfl | (simp [execOp, resolve, invoke, Act.eval]) | go_simp) ?_
          refine (small0 _).mono ?_
          rintro e A6 ⟨v2, rfl, hF2, hBx⟩
          obtain ⟨sb2, so2, sc2, bb2, bo2, bc2, _, _, _, rfl, _⟩ := id hF2
          replace hF1 := hF1.below hBx
          replace hRd := hRd.below hBx
          replace hsh := (shape_below hBx hll).trans hsh
          replace hll := Nat.lt_of_lt_of_le hll hBx.size
          replace hS := hS.trans (hBx.mono hS.size)
          refine ⟨_, rfl, hK.out _ _ hS fun _ => ?_⟩
          clear hK
          simp only [List.setIfInBounds_toArray, List.set_cons_succ, List.set_cons_zero]
          refine wpAnyH_ready (rs := [4]) (by kernel_rfl) (by simp) (AllReadyH.cons rfl (fun K' hK => ?_) AllReadyH.nil)
          · have hBx : Below W.heap.size A6 (A6.freeze ⟨A1.heap.size, 2, none⟩ 1) := freeze_below _ _ hlo
            refine markD (.tmp 59) (d := 60) rfl rfl rfl Tryz.underlying29 Tryz.underlying5 A1.heap.size 0 2 2 2 rfl hsh ?_
            replace hF1 := hF1.freeze ⟨A1.heap.size, 2, none⟩ 1
            replace hF2 := hF2.freeze ⟨A1.heap.size, 2, none⟩ 1
            replace hRd := freeze_rd ⟨A1.heap.size, 2, none⟩ 1 hRd
            replace hll : A1.heap.size < (A6.freeze ⟨A1.heap.size, 2, none⟩ 1).heap.size := by rw [freeze_size]; exact hll
            generalize (A6.freeze ⟨A1.heap.size, 2, none⟩ 1) = A7 at *
            clear hsh
            replace hS := hS.trans hBx
            refine hK.out _ _ hS fun _ => ?_
            clear hK
            simp only [List.setIfInBounds_toArray, List.set_cons_succ, List.set_cons_zero]
            refine takeD (i := 5) (d := 61) (v := .agg #[.slice (some ⟨A1.heap.size, 0, none⟩) 2 2, .int .i64 2]) rfl rfl (by kernel_rfl) (by kernel_rfl) (by kernel_rfl) (fun c a w h => h) (yieldsIf_op rfl (fun w => by first | rfl | kernel_rfl | (go_simp; done))) hS ?_
            simp only [List.setIfInBounds_toArray, List.set_cons_succ, List.set_cons_zero]
            refine takeD (i := 6) (d := 62) (v := .agg #[.slice (some ⟨sb1, so1, none⟩) 1 sc1, .slice (some ⟨bb1, bo1, none⟩) 1 bc1, .slice (some ⟨sb2, so2, none⟩) 1 sc2, .slice (some ⟨bb2, bo2, none⟩) 1 bc2, .slice (some ⟨A1.heap.size, 0, none⟩) 2 2, .int .i64 2]) rfl rfl (by kernel_rfl) (by kernel_rfl) (by kernel_rfl) (fun c a w h => h) (yieldsIf_op rfl (fun w => by first | rfl | kernel_rfl | (go_simp; done))) hS ?_
            simp only [List.setIfInBounds_toArray, List.set_cons_succ, List.set_cons_zero]
            refine wpAnyH_ready (rs := [7]) (by kernel_rfl) (by simp) (AllReadyH.cons rfl (fun K' hK => ?_) AllReadyH.nil)
            refine callD (d := 63) (g := 27) (args := #[.agg #[.slice pc exN.cls.length 2, .slice pr exN.rows.length 2, .slice pe exN.ends.length 2], .agg #[.slice (some ⟨sb1, so1, none⟩) 1 sc1, .slice (some ⟨bb1, bo1, none⟩) 1 bc1, .slice (some ⟨sb2, so2, none⟩) 1 sc2, .slice (some ⟨bb2, bo2, none⟩) 1 bc2, .slice (some ⟨A1.heap.size, 0, none⟩) 2 2, .int .i64 2]]) rfl rfl (by first | kernel_rfl | (simp [execOp, resolve, invoke, Act.eval]) | go_simp) ?_
            refine (nMeets A7 exN pc pr pe (some ⟨sb1, so1, none⟩) (some ⟨bb1, bo1, none⟩) (some ⟨sb2, so2, none⟩) (some ⟨bb2, bo2, none⟩) 2 2 2 1 sc1 1 bc1 1 sc2 1 bc2 A1.heap.size 0 2 [97, 98] 2 ⟨#[120]⟩ (Lib.hid nameX) (HN.out.below hS) hF1 hF2 hRd hll (by decide) (by decide) inc1 exCov exValid scope1).mono ?_
            rintro e XM ⟨u, b, rfl, hBx, hres⟩
            replace hS := hS.trans (hBx.mono hS.size)
            refine meets_word hres fun hb hr => ?_
            subst hb
            refine ⟨_, rfl, hK.out _ _ hS fun _ => ?_⟩
            clear hK
            simp only [List.setIfInBounds_toArray, List.set_cons_succ, List.set_cons_zero]
            refine takeD (i := 8) (d := 55) (v := .tuple #[oV u, .bool false, .int .i64 0]) rfl rfl (by kernel_rfl) (by kernel_rfl) (by kernel_rfl) (fun c a w h => h) (yieldsIf_op rfl (fun w => by first | rfl | kernel_rfl | (go_simp; done))) hS ?_
            simp only [List.setIfInBounds_toArray, List.set_cons_succ, List.set_cons_zero]
            refine takeD (i := 9) (d := 64) (v := oV u) rfl rfl (by kernel_rfl) (by kernel_rfl) (by kernel_rfl) (fun c a w h => h) (yieldsIf_op rfl (fun w => by first | rfl | kernel_rfl | (go_simp; done))) hS ?_
            simp only [List.setIfInBounds_toArray, List.set_cons_succ, List.set_cons_zero]
            refine takeD (i := 10) (d := 65) (v := .bool false) rfl rfl (by kernel_rfl) (by kernel_rfl) (by kernel_rfl) (fun c a w h => h) (yieldsIf_op rfl (fun w => by first | rfl | kernel_rfl | (go_simp; done))) hS ?_
            simp only [List.setIfInBounds_toArray, List.set_cons_succ, List.set_cons_zero]
            refine takeD (i := 11) (d := 66) (v := .int .i64 0) rfl rfl (by kernel_rfl) (by kernel_rfl) (by kernel_rfl) (fun c a w h => h) (yieldsIf_op rfl (fun w => by first | rfl | kernel_rfl | (go_simp; done))) hS ?_
            simp only [List.setIfInBounds_toArray, List.set_cons_succ, List.set_cons_zero]
            refine takeD (i := 12) (d := 14) (v := oV u) rfl rfl (by kernel_rfl) (by kernel_rfl) (by kernel_rfl) (fun c a w h => h) (yieldsIf_op rfl (fun w => by first | rfl | kernel_rfl | (go_simp; done))) hS ?_
            simp only [List.setIfInBounds_toArray, List.set_cons_succ, List.set_cons_zero]
            refine takeD (i := 13) (d := 15) (v := .bool false) rfl rfl (by kernel_rfl) (by kernel_rfl) (by kernel_rfl) (fun c a w h => h) (yieldsIf_op rfl (fun w => by first | rfl | kernel_rfl | (go_simp; done))) hS ?_
            simp only [List.setIfInBounds_toArray, List.set_cons_succ, List.set_cons_zero]
            refine takeD (i := 14) (d := 16) (v := .int .i64 0) rfl rfl (by kernel_rfl) (by kernel_rfl) (by kernel_rfl) (fun c a w h => h) (yieldsIf_op rfl (fun w => by first | rfl | kernel_rfl | (go_simp; done))) hS ?_
            simp only [List.setIfInBounds_toArray, List.set_cons_succ, List.set_cons_zero]
            refine wpAnyH_done (by kernel_rfl) ?_ _
            go_wp2
            go_meet
            exact ⟨u, rfl, rfl, rfl, hr, hS⟩
        · have hBx : Below W.heap.size A5 (A5.freeze ⟨A1.heap.size, 2, none⟩ 1) := freeze_below _ _ hlo
          refine markD (.tmp 59) (d := 60) rfl rfl rfl Tryz.underlying29 Tryz.underlying5 A1.heap.size 0 2 2 2 rfl hsh ?_
          replace hF1 := hF1.freeze ⟨A1.heap.size, 2, none⟩ 1
          replace hRd := freeze_rd ⟨A1.heap.size, 2, none⟩ 1 hRd
          replace hll : A1.heap.size < (A5.freeze ⟨A1.heap.size, 2, none⟩ 1).heap.size := by rw [freeze_size]; exact hll
          generalize (A5.freeze ⟨A1.heap.size, 2, none⟩ 1) = A8 at *
          clear hsh
          replace hS := hS.trans hBx
          refine hK.out _ _ hS fun _ => ?_
          clear hK
          simp only [List.setIfInBounds_toArray, List.set_cons_succ, List.set_cons_zero]
          refine takeD (i := 5) (d := 61) (v := .agg #[.slice (some ⟨A1.heap.size, 0, none⟩) 2 2, .int .i64 2]) rfl rfl (by kernel_rfl) (by kernel_rfl) (by kernel_rfl) (fun c a w h => h) (yieldsIf_op rfl (fun w => by first | rfl | kernel_rfl | (go_simp; done))) hS ?_
          simp only [List.setIfInBounds_toArray, List.set_cons_succ, List.set_cons_zero]
          refine wpAnyH_ready (rs := [2]) (by kernel_rfl) (by simp) (AllReadyH.cons rfl (fun K' hK => ?_) AllReadyH.nil)
          · refine callD (d := 58) (g := 28) (args := #[.int .u8 0]) rfl rfl (by first | kernel_rfl | (simp [execOp, resolve, invoke, Act.eval]) | go_simp) ?_
            refine (small0 _).mono ?_
            rintro e A9 ⟨v2, rfl, hF2, hBx⟩
            obtain ⟨sb2, so2, sc2, bb2, bo2, bc2, _, _, _, rfl, _⟩ := id hF2
            replace hF1 := hF1.below hBx
            replace hRd := hRd.below hBx
            replace hll := Nat.lt_of_lt_of_le hll hBx.size
            replace hS := hS.trans (hBx.mono hS.size)
            refine ⟨_, rfl, hK.out _ _ hS fun _ => ?_⟩
            clear hK
            simp only [List.setIfInBounds_toArray, List.set_cons_succ, List.set_cons_zero]
            refine takeD (i := 6) (d := 62) (v := .agg #[.slice (some ⟨sb1, so1, none⟩) 1 sc1, .slice (some ⟨bb1, bo1, none⟩) 1 bc1, .slice (some ⟨sb2, so2, none⟩) 1 sc2, .slice (some ⟨bb2, bo2, none⟩) 1 bc2, .slice (some ⟨A1.heap.size, 0, none⟩) 2 2, .int .i64 2]) rfl rfl (by kernel_rfl) (by kernel_rfl) (by kernel_rfl) (fun c a w h => h) (yieldsIf_op rfl (fun w => by first | rfl | kernel_rfl | (go_simp; done))) hS ?_
            simp only [List.setIfInBounds_toArray, List.set_cons_succ, List.set_cons_zero]
            refine wpAnyH_ready (rs := [7]) (by kernel_rfl) (by simp) (AllReadyH.cons rfl (fun K' hK => ?_) AllReadyH.nil)
            refine callD (d := 63) (g := 27) (args := #[.agg #[.slice pc exN.cls.length 2, .slice pr exN.rows.length 2, .slice pe exN.ends.length 2], .agg #[.slice (some ⟨sb1, so1, none⟩) 1 sc1, .slice (some ⟨bb1, bo1, none⟩) 1 bc1, .slice (some ⟨sb2, so2, none⟩) 1 sc2, .slice (some ⟨bb2, bo2, none⟩) 1 bc2, .slice (some ⟨A1.heap.size, 0, none⟩) 2 2, .int .i64 2]]) rfl rfl (by first | kernel_rfl | (simp [execOp, resolve, invoke, Act.eval]) | go_simp) ?_
            refine (nMeets A9 exN pc pr pe (some ⟨sb1, so1, none⟩) (some ⟨bb1, bo1, none⟩) (some ⟨sb2, so2, none⟩) (some ⟨bb2, bo2, none⟩) 2 2 2 1 sc1 1 bc1 1 sc2 1 bc2 A1.heap.size 0 2 [97, 98] 2 ⟨#[120]⟩ (Lib.hid nameX) (HN.out.below hS) hF1 hF2 hRd hll (by decide) (by decide) inc1 exCov exValid scope1).mono ?_
            rintro e XM ⟨u, b, rfl, hBx, hres⟩
            replace hS := hS.trans (hBx.mono hS.size)
            refine meets_word hres fun hb hr => ?_
            subst hb
            refine ⟨_, rfl, hK.out _ _ hS fun _ => ?_⟩
            clear hK
            simp only [List.setIfInBounds_toArray, List.set_cons_succ, List.set_cons_zero]
            refine takeD (i := 8) (d := 55) (v := .tuple #[oV u, .bool false, .int .i64 0]) rfl rfl (by kernel_rfl) (by kernel_rfl) (by kernel_rfl) (fun c a w h => h) (yieldsIf_op rfl (fun w => by first | rfl | kernel_rfl | (go_simp; done))) hS ?_
            simp only [List.setIfInBounds_toArray, List.set_cons_succ, List.set_cons_zero]
            refine takeD (i := 9) (d := 64) (v := oV u) rfl rfl (by kernel_rfl) (by kernel_rfl) (by kernel_rfl) (fun c a w h => h) (yieldsIf_op rfl (fun w => by first | rfl | kernel_rfl | (go_simp; done))) hS ?_
            simp only [List.setIfInBounds_toArray, List.set_cons_succ, List.set_cons_zero]
            refine takeD (i := 10) (d := 65) (v := .bool false) rfl rfl (by kernel_rfl) (by kernel_rfl) (by kernel_rfl) (fun c a w h => h) (yieldsIf_op rfl (fun w => by first | rfl | kernel_rfl | (go_simp; done))) hS ?_
            simp only [List.setIfInBounds_toArray, List.set_cons_succ, List.set_cons_zero]
            refine takeD (i := 11) (d := 66) (v := .int .i64 0) rfl rfl (by kernel_rfl) (by kernel_rfl) (by kernel_rfl) (fun c a w h => h) (yieldsIf_op rfl (fun w => by first | rfl | kernel_rfl | (go_simp; done))) hS ?_
            simp only [List.setIfInBounds_toArray, List.set_cons_succ, List.set_cons_zero]
            refine takeD (i := 12) (d := 14) (v := oV u) rfl rfl (by kernel_rfl) (by kernel_rfl) (by kernel_rfl) (fun c a w h => h) (yieldsIf_op rfl (fun w => by first | rfl | kernel_rfl | (go_simp; done))) hS ?_
            simp only [List.setIfInBounds_toArray, List.set_cons_succ, List.set_cons_zero]
            refine takeD (i := 13) (d := 15) (v := .bool false) rfl rfl (by kernel_rfl) (by kernel_rfl) (by kernel_rfl) (fun c a w h => h) (yieldsIf_op rfl (fun w => by first | rfl | kernel_rfl | (go_simp; done))) hS ?_
            simp only [List.setIfInBounds_toArray, List.set_cons_succ, List.set_cons_zero]
            refine takeD (i := 14) (d := 16) (v := .int .i64 0) rfl rfl (by kernel_rfl) (by kernel_rfl) (by kernel_rfl) (fun c a w h => h) (yieldsIf_op rfl (fun w => by first | rfl | kernel_rfl | (go_simp; done))) hS ?_
            simp only [List.setIfInBounds_toArray, List.set_cons_succ, List.set_cons_zero]
            refine wpAnyH_done (by kernel_rfl) ?_ _
            go_wp2
            go_meet
            exact ⟨u, rfl, rfl, rfl, hr, hS⟩
    · have hBx := below_al (Below.refl W.drew.heap.size W.drew) (Nat.le_refl _) (.cells #[.int .u8 97, .int .u8 98] 5)
      have hsh := shape_new W.drew #[.int .u8 97, .int .u8 98] 5
      have hRd : Rd u8V (W.drew.alloc (.cells #[.int .u8 97, .int .u8 98] 5)) (.slice (some ⟨W.drew.heap.size, 0, none⟩) 2 2) [97, 98] := .inr ⟨W.drew.heap.size, 0, 2, rfl, Nat.le_refl _, (Row.new (f := u8V) (l := [97, 98]) W.drew _ rfl).at, by simp⟩
      have hll : W.drew.heap.size < (W.drew.alloc (.cells #[.int .u8 97, .int .u8 98] 5)).heap.size := by simp
      refine valueD (d := 59) (v := .slice (some ⟨W.drew.heap.size, 0, none⟩) 2 2) (w' := W.drew.alloc (.cells #[.int .u8 97, .int .u8 98] 5)) rfl rfl (by first | rfl | kernel_rfl | (simp [execOp, go_sem]; done)) ?_
      have hlo : W.heap.size ≤ W.drew.heap.size := hS.size
      generalize (W.drew.alloc (.cells #[.int .u8 97, .int .u8 98] 5)) = A10 at *
      replace hS := hS.trans (hBx.mono hS.size)
      refine hK.out _ _ hS fun _ => ?_
      clear hK
      simp only [List.setIfInBounds_toArray, List.set_cons_succ, List.set_cons_zero]
      refine wpAnyH_ready (rs := [1, 4]) (by kernel_rfl) (by simp) (AllReadyH.cons rfl (fun K' hK => ?_) (AllReadyH.cons rfl (fun K' hK => ?_) AllReadyH.nil))
      · refine callD (d := 57) (g := 28) (args := #[.int .u8 0]) rfl rfl (by first | kernel_rfl | (simp [execOp, resolve, invoke, Act.eval]) | go_simp) ?_
        refine (small0 _).mono ?_
        rintro e A11 ⟨v1, rfl, hF1, hBx⟩
        obtain ⟨sb1, so1, sc1, bb1, bo1, bc1, _, _, _, rfl, _⟩ := id hF1
        replace hRd := hRd.below hBx
        replace hsh := (shape_below hBx hll).trans hsh
        replace hll := Nat.lt_of_lt_of_le hll hBx.size
        replace hS := hS.trans (hBx.mono hS.size)
        refine ⟨_, rfl, hK.out _ _ hS fun _ => ?_⟩
        clear hK
        simp only [List.setIfInBounds_toArray, List.set_cons_succ, List.set_cons_zero]
        refine wpAnyH_ready (rs := [2, 4]) (by kernel_rfl) (by simp) (AllReadyH.cons rfl (fun K' hK => ?_) (AllReadyH.cons rfl (fun K' hK => ?_) AllReadyH.nil))
        · refine callD (d := 58) (g := 28) (args := #[.int .u8 0]) rfl rfl (by first | kernel_rfl | (simp [execOp, resolve, invoke, Act.eval]) | go_simp) ?_
          refine (small0 _).mono ?_
          rintro e A12 ⟨v2, rfl, hF2, hBx⟩
          obtain ⟨sb2, so2, sc2, bb2, bo2, bc2, _, _, _, rfl, _⟩ := id hF2
          replace hF1 := hF1.below hBx
          replace hRd := hRd.below hBx
          replace hsh := (shape_below hBx hll).trans hsh
          replace hll := Nat.lt_of_lt_of_le hll hBx.size
          replace hS := hS.trans (hBx.mono hS.size)
          refine ⟨_, rfl, hK.out _ _ hS fun _ => ?_⟩
          clear hK
          simp only [List.setIfInBounds_toArray, List.set_cons_succ, List.set_cons_zero]
          refine wpAnyH_ready (rs := [4]) (by kernel_rfl) (by simp) (AllReadyH.cons rfl (fun K' hK => ?_) AllReadyH.nil)
          · have hBx : Below W.heap.size A12 (A12.freeze ⟨W.drew.heap.size, 2, none⟩ 1) := freeze_below _ _ hlo
            refine markD (.tmp 59) (d := 60) rfl rfl rfl Tryz.underlying29 Tryz.underlying5 W.drew.heap.size 0 2 2 2 rfl hsh ?_
            replace hF1 := hF1.freeze ⟨W.drew.heap.size, 2, none⟩ 1
            replace hF2 := hF2.freeze ⟨W.drew.heap.size, 2, none⟩ 1
            replace hRd := freeze_rd ⟨W.drew.heap.size, 2, none⟩ 1 hRd
            replace hll : W.drew.heap.size < (A12.freeze ⟨W.drew.heap.size, 2, none⟩ 1).heap.size := by rw [freeze_size]; exact hll
            generalize (A12.freeze ⟨W.drew.heap.size, 2, none⟩ 1) = A13 at *
            clear hsh
            replace hS := hS.trans hBx
            refine hK.out _ _ hS fun _ => ?_
            clear hK
            simp only [List.setIfInBounds_toArray, List.set_cons_succ, List.set_cons_zero]
            refine takeD (i := 5) (d := 61) (v := .agg #[.slice (some ⟨W.drew.heap.size, 0, none⟩) 2 2, .int .i64 2]) rfl rfl (by kernel_rfl) (by kernel_rfl) (by kernel_rfl) (fun c a w h => h) (yieldsIf_op rfl (fun w => by first | rfl | kernel_rfl | (go_simp; done))) hS ?_
            simp only [List.setIfInBounds_toArray, List.set_cons_succ, List.set_cons_zero]
            refine takeD (i := 6) (d := 62) (v := .agg #[.slice (some ⟨sb1, so1, none⟩) 1 sc1, .slice (some ⟨bb1, bo1, none⟩) 1 bc1, .slice (some ⟨sb2, so2, none⟩) 1 sc2, .slice (some ⟨bb2, bo2, none⟩) 1 bc2, .slice (some ⟨W.drew.heap.size, 0, none⟩) 2 2, .int .i64 2]) rfl rfl (by kernel_rfl) (by kernel_rfl) (by kernel_rfl) (fun c a w h => h) (yieldsIf_op rfl (fun w => by first | rfl | kernel_rfl | (go_simp; done))) hS ?_
            simp only [List.setIfInBounds_toArray, List.set_cons_succ, List.set_cons_zero]
            refine wpAnyH_ready (rs := [7]) (by kernel_rfl) (by simp) (AllReadyH.cons rfl (fun K' hK => ?_) AllReadyH.nil)
            refine callD (d := 63) (g := 27) (args := #[.agg #[.slice pc exN.cls.length 2, .slice pr exN.rows.length 2, .slice pe exN.ends.length 2], .agg #[.slice (some ⟨sb1, so1, none⟩) 1 sc1, .slice (some ⟨bb1, bo1, none⟩) 1 bc1, .slice (some ⟨sb2, so2, none⟩) 1 sc2, .slice (some ⟨bb2, bo2, none⟩) 1 bc2, .slice (some ⟨W.drew.heap.size, 0, none⟩) 2 2, .int .i64 2]]) rfl rfl (by first | kernel_rfl | (simp [execOp, resolve, invoke, Act.eval]) | go_simp) ?_
            refine (nMeets A13 exN pc pr pe (some ⟨sb1, so1, none⟩) (some ⟨bb1, bo1, none⟩) (some ⟨sb2, so2, none⟩) (some ⟨bb2, bo2, none⟩) 2 2 2 1 sc1 1 bc1 1 sc2 1 bc2 W.drew.heap.size 0 2 [97, 98] 2 ⟨#[120]⟩ (Lib.hid nameX) (HN.out.below hS) hF1 hF2 hRd hll (by decide) (by decide) inc1 exCov exValid scope1).mono ?_
            rintro e XM ⟨u, b, rfl, hBx, hres⟩
            replace hS := hS.trans (hBx.mono hS.size)
            refine meets_word hres fun hb hr => ?_
            subst hb
            refine ⟨_, rfl, hK.out _ _ hS fun _ => ?_⟩
            clear hK
            simp only [List.setIfInBounds_toArray, List.set_cons_succ, List.set_cons_zero]
            refine takeD (i := 8) (d := 55) (v := .tuple #[oV u, .bool false, .int .i64 0]) rfl rfl (by kernel_rfl) (by kernel_rfl) (by kernel_rfl) (fun c a w h => h) (yieldsIf_op rfl (fun w => by first | rfl | kernel_rfl | (go_simp; done))) hS ?_
            simp only [List.setIfInBounds_toArray, List.set_cons_succ, List.set_cons_zero]
            refine takeD (i := 9) (d := 64) (v := oV u) rfl rfl (by kernel_rfl) (by kernel_rfl) (by kernel_rfl) (fun c a w h => h) (yieldsIf_op rfl (fun w => by first | rfl | kernel_rfl | (go_simp; done))) hS ?_
            simp only [List.setIfInBounds_toArray, List.set_cons_succ, List.set_cons_zero]
            refine takeD (i := 10) (d := 65) (v := .bool false) rfl rfl (by kernel_rfl) (by kernel_rfl) (by kernel_rfl) (fun c a w h => h) (yieldsIf_op rfl (fun w => by first | rfl | kernel_rfl | (go_simp; done))) hS ?_
            simp only [List.setIfInBounds_toArray, List.set_cons_succ, List.set_cons_zero]
            refine takeD (i := 11) (d := 66) (v := .int .i64 0) rfl rfl (by kernel_rfl) (by kernel_rfl) (by kernel_rfl) (fun c a w h => h) (yieldsIf_op rfl (fun w => by first | rfl | kernel_rfl | (go_simp; done))) hS ?_
            simp only [List.setIfInBounds_toArray, List.set_cons_succ, List.set_cons_zero]
            refine takeD (i := 12) (d := 14) (v := oV u) rfl rfl (by kernel_rfl) (by kernel_rfl) (by kernel_rfl) (fun c a w h => h) (yieldsIf_op rfl (fun w => by first | rfl | kernel_rfl | (go_simp; done))) hS ?_
            simp only [List.setIfInBounds_toArray, List.set_cons_succ, List.set_cons_zero]
            refine takeD (i := 13) (d := 15) (v := .bool false) rfl rfl (by kernel_rfl) (by kernel_rfl) (by kernel_rfl) (fun c a w h => h) (yieldsIf_op rfl (fun w => by first | rfl | kernel_rfl | (go_simp; done))) hS ?_
            simp only [List.setIfInBounds_toArray, List.set_cons_succ, List.set_cons_zero]
            refine takeD (i := 14) (d := 16) (v := .int .i64 0) rfl rfl (by kernel_rfl) (by kernel_rfl) (by kernel_rfl) (fun c a w h => h) (yieldsIf_op rfl (fun w => by first | rfl | kernel_rfl | (go_simp; done))) hS ?_
            simp only [List.setIfInBounds_toArray, List.set_cons_succ, List.set_cons_zero]
            refine wpAnyH_done (by kernel_rfl) ?_ _
            go_wp2
            go_meet
            exact ⟨u, rfl, rfl, rfl, hr, hS⟩
        · have hBx : Below W.heap.size A11 (A11.freeze ⟨W.drew.heap.size, 2, none⟩ 1) := freeze_below _ _ hlo
          refine markD (.tmp 59) (d := 60) rfl rfl rfl Tryz.underlying29 Tryz.underlying5 W.drew.heap.size 0 2 2 2 rfl hsh ?_
          replace hF1 := hF1.freeze ⟨W.drew.heap.size, 2, none⟩ 1
          replace hRd := freeze_rd ⟨W.drew.heap.size, 2, none⟩ 1 hRd
          replace hll : W.drew.heap.size < (A11.freeze ⟨W.drew.heap.size, 2, none⟩ 1).heap.size := by rw [freeze_size]; exact hll
          generalize (A11.freeze ⟨W.drew.heap.size, 2, none⟩ 1) = A14 at *
          clear hsh
          replace hS := hS.trans hBx
          refine hK.out _ _ hS fun _ => ?_
          clear hK
          simp only [List.setIfInBounds_toArray, List.set_cons_succ, List.set_cons_zero]
          refine takeD (i := 5) (d := 61) (v := .agg #[.slice (some ⟨W.drew.heap.size, 0, none⟩) 2 2, .int .i64 2]) rfl rfl (by kernel_rfl) (by kernel_rfl) (by kernel_rfl) (fun c a w h => h) (yieldsIf_op rfl (fun w => by first | rfl | kernel_rfl | (go_simp; done))) hS ?_
          simp only [List.setIfInBounds_toArray, List.set_cons_succ, List.set_cons_zero]
          refine wpAnyH_ready (rs := [2]) (by kernel_rfl) (by simp) (AllReadyH.cons rfl (fun K' hK => ?_) AllReadyH.nil)
          · refine callD (d := 58) (g := 28) (args := #[.int .u8 0]) rfl rfl (by first | kernel_rfl | (simp [execOp, resolve, invoke, Act.eval]) | go_simp) ?_
            refine (small0 _).mono ?_
            rintro e A15 ⟨v2, rfl, hF2, hBx⟩
            obtain ⟨sb2, so2, sc2, bb2, bo2, bc2, _, _, _, rfl, _⟩ := id hF2
            replace hF1 := hF1.below hBx
            replace hRd := hRd.below hBx
            replace hll := Nat.lt_of_lt_of_le hll hBx.size
            replace hS := hS.trans (hBx.mono hS.size)
            refine ⟨_, rfl, hK.out _ _ hS fun _ => ?_⟩
            clear hK
            simp only [List.setIfInBounds_toArray, List.set_cons_succ, List.set_cons_zero]
            refine takeD (i := 6) (d := 62) (v := .agg #[.slice (some ⟨sb1, so1, none⟩) 1 sc1, .slice (some ⟨bb1, bo1, none⟩) 1 bc1, .slice (some ⟨sb2, so2, none⟩) 1 sc2, .slice (some ⟨bb2, bo2, none⟩) 1 bc2, .slice (some ⟨W.drew.heap.size, 0, none⟩) 2 2, .int .i64 2]) rfl rfl (by kernel_rfl) (by kernel_rfl) (by kernel_rfl) (fun c a w h => h) (yieldsIf_op rfl (fun w => by first | rfl | kernel_rfl | (go_simp; done))) hS ?_
            simp only [List.setIfInBounds_toArray, List.set_cons_succ, List.set_cons_zero]
            refine wpAnyH_ready (rs := [7]) (by kernel_rfl) (by simp) (AllReadyH.cons rfl (fun K' hK => ?_) AllReadyH.nil)
            refine callD (d := 63) (g := 27) (args := #[.agg #[.slice pc exN.cls.length 2, .slice pr exN.rows.length 2, .slice pe exN.ends.length 2], .agg #[.slice (some ⟨sb1, so1, none⟩) 1 sc1, .slice (some ⟨bb1, bo1, none⟩) 1 bc1, .slice (some ⟨sb2, so2, none⟩) 1 sc2, .slice (some ⟨bb2, bo2, none⟩) 1 bc2, .slice (some ⟨W.drew.heap.size, 0, none⟩) 2 2, .int .i64 2]]) rfl rfl (by first | kernel_rfl | (simp [execOp, resolve, invoke, Act.eval]) | go_simp) ?_
            refine (nMeets A15 exN pc pr pe (some ⟨sb1, so1, none⟩) (some ⟨bb1, bo1, none⟩) (some ⟨sb2, so2, none⟩) (some ⟨bb2, bo2, none⟩) 2 2 2 1 sc1 1 bc1 1 sc2 1 bc2 W.drew.heap.size 0 2 [97, 98] 2 ⟨#[120]⟩ (Lib.hid nameX) (HN.out.below hS) hF1 hF2 hRd hll (by decide) (by decide) inc1 exCov exValid scope1).mono ?_
            rintro e XM ⟨u, b, rfl, hBx, hres⟩
            replace hS := hS.trans (hBx.mono hS.size)
            refine meets_word hres fun hb hr => ?_
            subst hb
            refine ⟨_, rfl, hK.out _ _ hS fun _ => ?_⟩
            clear hK
            simp only [List.setIfInBounds_toArray, List.set_cons_succ, List.set_cons_zero]
            refine takeD (i := 8) (d := 55) (v := .tuple #[oV u, .bool false, .int .i64 0]) rfl rfl (by kernel_rfl) (by kernel_rfl) (by kernel_rfl) (fun c a w h => h) (yieldsIf_op rfl (fun w => by first | rfl | kernel_rfl | (go_simp; done))) hS ?_
            simp only [List.setIfInBounds_toArray, List.set_cons_succ, List.set_cons_zero]
            refine takeD (i := 9) (d := 64) (v := oV u) rfl rfl (by kernel_rfl) (by kernel_rfl) (by kernel_rfl) (fun c a w h => h) (yieldsIf_op rfl (fun w => by first | rfl | kernel_rfl | (go_simp; done))) hS ?_
            simp only [List.setIfInBounds_toArray, List.set_cons_succ, List.set_cons_zero]
            refine takeD (i := 10) (d := 65) (v := .bool false) rfl rfl (by kernel_rfl) (by kernel_rfl) (by kernel_rfl) (fun c a w h => h) (yieldsIf_op rfl (fun w => by first | rfl | kernel_rfl | (go_simp; done))) hS ?_
            simp only [List.setIfInBounds_toArray, List.set_cons_succ, List.set_cons_zero]
            refine takeD (i := 11) (d := 66) (v := .int .i64 0) rfl rfl (by kernel_rfl) (by kernel_rfl) (by kernel_rfl) (fun c a w h => h) (yieldsIf_op rfl (fun w => by first | rfl | kernel_rfl | (go_simp; done))) hS ?_
            simp only [List.setIfInBounds_toArray, List.set_cons_succ, List.set_cons_zero]
            refine takeD (i := 12) (d := 14) (v := oV u) rfl rfl (by kernel_rfl) (by kernel_rfl) (by kernel_rfl) (fun c a w h => h) (yieldsIf_op rfl (fun w => by first | rfl | kernel_rfl | (go_simp; done))) hS ?_
            simp only [List.setIfInBounds_toArray, List.set_cons_succ, List.set_cons_zero]
            refine takeD (i := 13) (d := 15) (v := .bool false) rfl rfl (by kernel_rfl) (by kernel_rfl) (by kernel_rfl) (fun c a w h => h) (yieldsIf_op rfl (fun w => by first | rfl | kernel_rfl | (go_simp; done))) hS ?_
            simp only [List.setIfInBounds_toArray, List.set_cons_succ, List.set_cons_zero]
            refine takeD (i := 14) (d := 16) (v := .int .i64 0) rfl rfl (by kernel_rfl) (by kernel_rfl) (by kernel_rfl) (fun c a w h => h) (yieldsIf_op rfl (fun w => by first | rfl | kernel_rfl | (go_simp; done))) hS ?_
            simp only [List.setIfInBounds_toArray, List.set_cons_succ, List.set_cons_zero]
            refine wpAnyH_done (by kernel_rfl) ?_ _
            go_wp2
            go_meet
            exact ⟨u, rfl, rfl, rfl, hr, hS⟩
      · have hBx : Below W.heap.size A10 (A10.freeze ⟨W.drew.heap.size, 2, none⟩ 1) := freeze_below _ _ hlo
        refine markD (.tmp 59) (d := 60) rfl rfl rfl Tryz.underlying29 Tryz.underlying5 W.drew.heap.size 0 2 2 2 rfl hsh ?_
        replace hRd := freeze_rd ⟨W.drew.heap.size, 2, none⟩ 1 hRd
        replace hll : W.drew.heap.size < (A10.freeze ⟨W.drew.heap.size, 2, none⟩ 1).heap.size := by rw [freeze_size]; exact hll
        generalize (A10.freeze ⟨W.drew.heap.size, 2, none⟩ 1) = A16 at *
        clear hsh
        replace hS := hS.trans hBx
        refine hK.out _ _ hS fun _ => ?_
        clear hK
        simp only [List.setIfInBounds_toArray, List.set_cons_succ, List.set_cons_zero]
        refine takeD (i := 5) (d := 61) (v := .agg #[.slice (some ⟨W.drew.heap.size, 0, none⟩) 2 2, .int .i64 2]) rfl rfl (by kernel_rfl) (by kernel_rfl) (by kernel_rfl) (fun c a w h => h) (yieldsIf_op rfl (fun w => by first | rfl | kernel_rfl | (go_simp; done))) hS ?_
        simp only [List.setIfInBounds_toArray, List.set_cons_succ, List.set_cons_zero]
        refine wpAnyH_ready (rs := [1]) (by kernel_rfl) (by simp) (AllReadyH.cons rfl (fun K' hK => ?_) AllReadyH.nil)
        · refine callD (d := 57) (g := 28) (args := #[.int .u8 0]) rfl rfl (by first | kernel_rfl | (simp [execOp, resolve, invoke, Act.eval]) | go_simp) ?_
          refine (small0 _).mono ?_
          rintro e A17 ⟨v1, rfl, hF1, hBx⟩
          obtain ⟨sb1, so1, sc1, bb1, bo1, bc1, _, _, _, rfl, _⟩ := id hF1
          replace hRd := hRd.below hBx
          replace hll := Nat.lt_of_lt_of_le hll hBx.size
          replace hS := hS.trans (hBx.mono hS.size)
          refine ⟨_, rfl, hK.out _ _ hS fun _ => ?_⟩
          clear hK
          simp only [List.setIfInBounds_toArray, List.set_cons_succ, List.set_cons_zero]
          refine wpAnyH_ready (rs := [2]) (by kernel_rfl) (by simp) (AllReadyH.cons rfl (fun K' hK => ?_) AllReadyH.nil)
          · refine callD (d := 58) (g := 28) (args := #[.int .u8 0]) rfl rfl (by first | kernel_rfl | (simp [execOp, resolve, invoke, Act.eval]) | go_simp) ?_
            refine (small0 _).mono ?_
            rintro e A18 ⟨v2, rfl, hF2, hBx⟩
            obtain ⟨sb2, so2, sc2, bb2, bo2, bc2, _, _, _, rfl, _⟩ := id hF2
            replace hF1 := hF1.below hBx
            replace hRd := hRd.below hBx
            replace hll := Nat.lt_of_lt_of_le hll hBx.size
            replace hS := hS.trans (hBx.mono hS.size)
            refine ⟨_, rfl, hK.out _ _ hS fun _ => ?_⟩
            clear hK
            simp only [List.setIfInBounds_toArray, List.set_cons_succ, List.set_cons_zero]
            refine takeD (i := 6) (d := 62) (v := .agg #[.slice (some ⟨sb1, so1, none⟩) 1 sc1, .slice (some ⟨bb1, bo1, none⟩) 1 bc1, .slice (some ⟨sb2, so2, none⟩) 1 sc2, .slice (some ⟨bb2, bo2, none⟩) 1 bc2, .slice (some ⟨W.drew.heap.size, 0, none⟩) 2 2, .int .i64 2]) rfl rfl (by kernel_rfl) (by kernel_rfl) (by kernel_rfl) (fun c a w h => h) (yieldsIf_op rfl (fun w => by first | rfl | kernel_rfl | (go_simp; done))) hS ?_
            simp only [List.setIfInBounds_toArray, List.set_cons_succ, List.set_cons_zero]
            refine wpAnyH_ready (rs := [7]) (by kernel_rfl) (by simp) (AllReadyH.cons rfl (fun K' hK => ?_) AllReadyH.nil)
            refine callD (d := 63) (g := 27) (args := #[.agg #[.slice pc exN.cls.length 2, .slice pr exN.rows.length 2, .slice pe exN.ends.length 2], .agg #[.slice (some ⟨sb1, so1, none⟩) 1 sc1, .slice (some ⟨bb1, bo1, none⟩) 1 bc1, .slice (some ⟨sb2, so2, none⟩) 1 sc2, .slice (some ⟨bb2, bo2, none⟩) 1 bc2, .slice (some ⟨W.drew.heap.size, 0, none⟩) 2 2, .int .i64 2]]) rfl rfl (by first | kernel_rfl | (simp [execOp, resolve, invoke, Act.eval]) | go_simp) ?_
            refine (nMeets A18 exN pc pr pe (some ⟨sb1, so1, none⟩) (some ⟨bb1, bo1, none⟩) (some ⟨sb2, so2, none⟩) (some ⟨bb2, bo2, none⟩) 2 2 2 1 sc1 1 bc1 1 sc2 1 bc2 W.drew.heap.size 0 2 [97, 98] 2 ⟨#[120]⟩ (Lib.hid nameX) (HN.out.below hS) hF1 hF2 hRd hll (by decide) (by decide) inc1 exCov exValid scope1).mono ?_
            rintro e XM ⟨u, b, rfl, hBx, hres⟩
            replace hS := hS.trans (hBx.mono hS.size)
            refine meets_word hres fun hb hr => ?_
            subst hb
            refine ⟨_, rfl, hK.out _ _ hS fun _ => ?_⟩
            clear hK
            simp only [List.setIfInBounds_toArray, List.set_cons_succ, List.set_cons_zero]
            refine takeD (i := 8) (d := 55) (v := .tuple #[oV u, .bool false, .int .i64 0]) rfl rfl (by kernel_rfl) (by kernel_rfl) (by kernel_rfl) (fun c a w h => h) (yieldsIf_op rfl (fun w => by first | rfl | kernel_rfl | (go_simp; done))) hS ?_
            simp only [List.setIfInBounds_toArray, List.set_cons_succ, List.set_cons_zero]
            refine takeD (i := 9) (d := 64) (v := oV u) rfl rfl (by kernel_rfl) (by kernel_rfl) (by kernel_rfl) (fun c a w h => h) (yieldsIf_op rfl (fun w => by first | rfl | kernel_rfl | (go_simp; done))) hS ?_
            simp only [List.setIfInBounds_toArray, List.set_cons_succ, List.set_cons_zero]
            refine takeD (i := 10) (d := 65) (v := .bool false) rfl rfl (by kernel_rfl) (by kernel_rfl) (by kernel_rfl) (fun c a w h => h) (yieldsIf_op rfl (fun w => by first | rfl | kernel_rfl | (go_simp; done))) hS ?_
            simp only [List.setIfInBounds_toArray, List.set_cons_succ, List.set_cons_zero]
            refine takeD (i := 11) (d := 66) (v := .int .i64 0) rfl rfl (by kernel_rfl) (by kernel_rfl) (by kernel_rfl) (fun c a w h => h) (yieldsIf_op rfl (fun w => by first | rfl | kernel_rfl | (go_simp; done))) hS ?_
            simp only [List.setIfInBounds_toArray, List.set_cons_succ, List.set_cons_zero]
            refine takeD (i := 12) (d := 14) (v := oV u) rfl rfl (by kernel_rfl) (by kernel_rfl) (by kernel_rfl) (fun c a w h => h) (yieldsIf_op rfl (fun w => by first | rfl | kernel_rfl | (go_simp; done))) hS ?_
            simp only [List.setIfInBounds_toArray, List.set_cons_succ, List.set_cons_zero]
            refine takeD (i := 13) (d := 15) (v := .bool false) rfl rfl (by kernel_rfl) (by kernel_rfl) (by kernel_rfl) (fun c a w h => h) (yieldsIf_op rfl (fun w => by first | rfl | kernel_rfl | (go_simp; done))) hS ?_
            simp only [List.setIfInBounds_toArray, List.set_cons_succ, List.set_cons_zero]
            refine takeD (i := 14) (d := 16) (v := .int .i64 0) rfl rfl (by kernel_rfl) (by kernel_rfl) (by kernel_rfl) (fun c a w h => h) (yieldsIf_op rfl (fun w => by first | rfl | kernel_rfl | (go_simp; done))) hS ?_
            simp only [List.setIfInBounds_toArray, List.set_cons_succ, List.set_cons_zero]
            refine wpAnyH_done (by kernel_rfl) ?_ _
            go_wp2
            go_meet
            exact ⟨u, rfl, rfl, rfl, hr, hS⟩
  obtain ⟨u, rfl, rfl, rfl, hu, hb⟩ := hcut
  replace HS := Lib.hid (HS.out.below hb hls)
  replace hls : n13 < wc.heap.size := Nat.lt_of_lt_of_le hls hb.size
  replace HN := Lib.hid (HN.out.below hb)
  replace HO := Lib.hid (HO.out.below hb)
  replace HR := Lib.hid (HR.out.below hb hlr)
  replace hlr : n1 < wc.heap.size := Nat.lt_of_lt_of_le hlr hb.size
  replace hB := hB.trans (hb.mono hB.size)
  have HU := Lib.hid hu
  clear hb hu
  obtain ⟨c0, c1, c2⟩ := row3 HR.out
  obtain ⟨d0, d1⟩ := row2 HS.out
  have hcv : (convert 29 9 (.slice po 2 ko)).run Tryz.prog wc = .ok (.string ⟨#[120, 98]⟩) wc := run_convert_rd Tryz.underlying29 Tryz.underlying5 Tryz.underlying9 HO.out
  have hcu : (convert 29 9 (oV u)).run Tryz.prog wc = .ok (.string ⟨#[97]⟩) wc := run_convert_rd Tryz.underlying29 Tryz.underlying5 Tryz.underlying9 HU.out
  go_wp2_with fail
  refine (nValid wc _ exN HN.out).mono ?_
  rintro e V1 ⟨rfl, hb⟩
  rw [exValid]
  replace HN := Lib.hid (HN.out.below hb)
  replace HO := Lib.hid (HO.out.below hb)
  replace HR := Lib.hid (HR.out.below hb hlr)
  replace hlr : n1 < V1.heap.size := Nat.lt_of_lt_of_le hlr hb.size
  replace hB := hB.trans (hb.mono hB.size)
  replace HS := Lib.hid (HS.out.below hb hls)
  replace hls : n13 < V1.heap.size := Nat.lt_of_lt_of_le hls hb.size
  replace HU := Lib.hid (HU.out.below hb)
  clear hb c0 c1 c2 d0 d1 hcv hcu
  obtain ⟨c0, c1, c2⟩ := row3 HR.out
  obtain ⟨d0, d1⟩ := row2 HS.out
  have hcv : (convert 29 9 (.slice po 2 ko)).run Tryz.prog V1 = .ok (.string ⟨#[120, 98]⟩) V1 := run_convert_rd Tryz.underlying29 Tryz.underlying5 Tryz.underlying9 HO.out
  have hcu : (convert 29 9 (oV u)).run Tryz.prog V1 = .ok (.string ⟨#[97]⟩) V1 := run_convert_rd Tryz.underlying29 Tryz.underlying5 Tryz.underlying9 HU.out
  go_wp2_with fail
  refine (feeds1 V1 0 false [120, 97] 1 false [120] ok0 (by simp) fd1).mono ?_
  rintro e V2 ⟨rfl, hb⟩
  replace HN := Lib.hid (HN.out.below hb)
  replace HO := Lib.hid (HO.out.below hb)
  replace HR := Lib.hid (HR.out.below hb hlr)
  replace hlr : n1 < V2.heap.size := Nat.lt_of_lt_of_le hlr hb.size
  replace hB := hB.trans (hb.mono hB.size)
  replace HS := Lib.hid (HS.out.below hb hls)
  replace hls : n13 < V2.heap.size := Nat.lt_of_lt_of_le hls hb.size
  replace HU := Lib.hid (HU.out.below hb)
  clear hb c0 c1 c2 d0 d1 hcv hcu
  obtain ⟨c0, c1, c2⟩ := row3 HR.out
  obtain ⟨d0, d1⟩ := row2 HS.out
  have hcv : (convert 29 9 (.slice po 2 ko)).run Tryz.prog V2 = .ok (.string ⟨#[120, 98]⟩) V2 := run_convert_rd Tryz.underlying29 Tryz.underlying5 Tryz.underlying9 HO.out
  have hcu : (convert 29 9 (oV u)).run Tryz.prog V2 = .ok (.string ⟨#[97]⟩) V2 := run_convert_rd Tryz.underlying29 Tryz.underlying5 Tryz.underlying9 HU.out
  go_wp2_with fail
  refine (feeds1 V2 1 false [99] 0 false [98] ok1 (by simp) fd2).mono ?_
  rintro e V3 ⟨rfl, hb⟩
  replace HN := Lib.hid (HN.out.below hb)
  replace HO := Lib.hid (HO.out.below hb)
  replace HR := Lib.hid (HR.out.below hb hlr)
  replace hlr : n1 < V3.heap.size := Nat.lt_of_lt_of_le hlr hb.size
  replace hB := hB.trans (hb.mono hB.size)
  replace HS := Lib.hid (HS.out.below hb hls)
  replace hls : n13 < V3.heap.size := Nat.lt_of_lt_of_le hls hb.size
  replace HU := Lib.hid (HU.out.below hb)
  clear hb c0 c1 c2 d0 d1 hcv hcu
  obtain ⟨c0, c1, c2⟩ := row3 HR.out
  obtain ⟨d0, d1⟩ := row2 HS.out
  have hcv : (convert 29 9 (.slice po 2 ko)).run Tryz.prog V3 = .ok (.string ⟨#[120, 98]⟩) V3 := run_convert_rd Tryz.underlying29 Tryz.underlying5 Tryz.underlying9 HO.out
  have hcu : (convert 29 9 (oV u)).run Tryz.prog V3 = .ok (.string ⟨#[97]⟩) V3 := run_convert_rd Tryz.underlying29 Tryz.underlying5 Tryz.underlying9 HU.out
  go_wp2_with fail
  refine (feeds1 V3 1 false [97, 98] 0 true [] ok1 (by simp) fd3).mono ?_
  rintro e V4 ⟨rfl, hb⟩
  replace HN := Lib.hid (HN.out.below hb)
  replace HO := Lib.hid (HO.out.below hb)
  replace HR := Lib.hid (HR.out.below hb hlr)
  replace hlr : n1 < V4.heap.size := Nat.lt_of_lt_of_le hlr hb.size
  replace hB := hB.trans (hb.mono hB.size)
  replace HS := Lib.hid (HS.out.below hb hls)
  replace hls : n13 < V4.heap.size := Nat.lt_of_lt_of_le hls hb.size
  replace HU := Lib.hid (HU.out.below hb)
  clear hb c0 c1 c2 d0 d1 hcv hcu
  obtain ⟨c0, c1, c2⟩ := row3 HR.out
  obtain ⟨d0, d1⟩ := row2 HS.out
  have hcv : (convert 29 9 (.slice po 2 ko)).run Tryz.prog V4 = .ok (.string ⟨#[120, 98]⟩) V4 := run_convert_rd Tryz.underlying29 Tryz.underlying5 Tryz.underlying9 HO.out
  have hcu : (convert 29 9 (oV u)).run Tryz.prog V4 = .ok (.string ⟨#[97]⟩) V4 := run_convert_rd Tryz.underlying29 Tryz.underlying5 Tryz.underlying9 HU.out
  go_wp2_with fail
  refine (nFinish V4 exN pc pr pe 2 2 2 1 false HN.out).mono ?_
  rintro e V5 ⟨rfl, hb⟩
  rw [fin1]
  replace HN := Lib.hid (HN.out.below hb)
  replace HO := Lib.hid (HO.out.below hb)
  replace HR := Lib.hid (HR.out.below hb hlr)
  replace hlr : n1 < V5.heap.size := Nat.lt_of_lt_of_le hlr hb.size
  replace hB := hB.trans (hb.mono hB.size)
  replace HS := Lib.hid (HS.out.below hb hls)
  replace hls : n13 < V5.heap.size := Nat.lt_of_lt_of_le hls hb.size
  replace HU := Lib.hid (HU.out.below hb)
  clear hb c0 c1 c2 d0 d1 hcv hcu
  obtain ⟨c0, c1, c2⟩ := row3 HR.out
  obtain ⟨d0, d1⟩ := row2 HS.out
  have hcv : (convert 29 9 (.slice po 2 ko)).run Tryz.prog V5 = .ok (.string ⟨#[120, 98]⟩) V5 := run_convert_rd Tryz.underlying29 Tryz.underlying5 Tryz.underlying9 HO.out
  have hcu : (convert 29 9 (oV u)).run Tryz.prog V5 = .ok (.string ⟨#[97]⟩) V5 := run_convert_rd Tryz.underlying29 Tryz.underlying5 Tryz.underlying9 HU.out
  go_wp2_with fail
  refine (nFinish V5 exN pc pr pe 2 2 2 0 false HN.out).mono ?_
  rintro e V6 ⟨rfl, hb⟩
  rw [fin2]
  replace HN := Lib.hid (HN.out.below hb)
  replace HO := Lib.hid (HO.out.below hb)
  replace HR := Lib.hid (HR.out.below hb hlr)
  replace hlr : n1 < V6.heap.size := Nat.lt_of_lt_of_le hlr hb.size
  replace hB := hB.trans (hb.mono hB.size)
  replace HS := Lib.hid (HS.out.below hb hls)
  replace hls : n13 < V6.heap.size := Nat.lt_of_lt_of_le hls hb.size
  replace HU := Lib.hid (HU.out.below hb)
  clear hb c0 c1 c2 d0 d1 hcv hcu
  obtain ⟨c0, c1, c2⟩ := row3 HR.out
  obtain ⟨d0, d1⟩ := row2 HS.out
  have hcv : (convert 29 9 (.slice po 2 ko)).run Tryz.prog V6 = .ok (.string ⟨#[120, 98]⟩) V6 := run_convert_rd Tryz.underlying29 Tryz.underlying5 Tryz.underlying9 HO.out
  have hcu : (convert 29 9 (oV u)).run Tryz.prog V6 = .ok (.string ⟨#[97]⟩) V6 := run_convert_rd Tryz.underlying29 Tryz.underlying5 Tryz.underlying9 HU.out
  go_wp2_with fail
  refine (nValid V6 _ ⟨[], [], []⟩ (zeroN V6)).mono ?_
  rintro e V7 ⟨rfl, hb⟩
  rw [empty_invalid]
  replace HN := Lib.hid (HN.out.below hb)
  replace HO := Lib.hid (HO.out.below hb)
  replace HR := Lib.hid (HR.out.below hb hlr)
  replace hlr : n1 < V7.heap.size := Nat.lt_of_lt_of_le hlr hb.size
  replace hB := hB.trans (hb.mono hB.size)
  replace HS := Lib.hid (HS.out.below hb hls)
  replace hls : n13 < V7.heap.size := Nat.lt_of_lt_of_le hls hb.size
  replace HU := Lib.hid (HU.out.below hb)
  clear hb c0 c1 c2 d0 d1 hcv hcu
  go_wp2
  go_ret
  exact ⟨rfl, hB⟩
end Go.Proofs.YtgflelodpcgmbaaGreatDoor
