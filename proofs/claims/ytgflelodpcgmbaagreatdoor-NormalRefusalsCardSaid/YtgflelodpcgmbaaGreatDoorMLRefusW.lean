/- The walk of univocallaw25.NormalRefusals: it returns true. -/
import Derived.Test.YtgflelodpcgmbaaGreatDoorMSanity
import Derived.Test.YtgflelodpcgmbaaGreatDoorMRMade
import Derived.Test.YtgflelodpcgmbaaGreatDoorMSubRow
import Derived.Test.YtgflelodpcgmbaaGreatDoorMScP
namespace Go.Proofs.YtgflelodpcgmbaaGreatDoor
open Go Go.RowKit Mem
set_option maxRecDepth 100000

theorem inc3 : ∀ i (h : i + 1 < ([97, 98, 99] : List UInt8).length), ([97, 98, 99] : List UInt8)[i].toNat < ([97, 98, 99] : List UInt8)[i + 1].toNat := by
  intro i h
  have h2 : i = 0 ∨ i = 1 := by simp at h; omega
  rcases h2 with rfl | rfl
  · exact (show (97 : UInt8).toNat < (98 : UInt8).toNat by decide)
  · exact (show (98 : UInt8).toNat < (99 : UInt8).toNat by decide)
theorem aggScp : AggT Tryz.prog 42 2 := ⟨fun _ => by kernel_rfl, fun _ => by kernel_rfl⟩

set_option maxHeartbeats 32000000 in
theorem refusalsW (w : World) (p1 : Option Addr) (c1 : Nat) (l : List UInt8) (k0 : UInt8) (hl : Rd u8V w (.slice p1 l.length c1) l) :
    Calls Tryz.prog 5 #[.slice p1 l.length c1, .int .u8 (k0.toNat : Int)] w fun e w' => e = .returned (.bool true) ∧ Below w.heap.size w w' := by
  have HL := Lib.hid hl
  clear hl
  go_enter Tryz.func5, Tryz.ntmps5
  have hx1 : ((k0.toNat : Nat) : Int).tmod 4 = ((k0.toNat % 4 : Nat) : Int) := by rw [Int.tmod_eq_emod_of_nonneg (by omega)]; omega
  have hx2 : ((k0.toNat : Nat) : Int) % 4 = ((k0.toNat % 4 : Nat) : Int) := by omega
  have hx3 : k0.toNat % 4 < 4 := Nat.mod_lt _ (by omega)
  generalize k0.toNat = y at *
  generalize y % 4 = x at *
  have hw1 : IntKind.u8.wrap (x : Int) = (x : Int) := by rw [IntKind.wrap_u8]; omega
  go_upto_region 1 with (fail)
  go_wp2_with fail
  refine (sanity1 w).mono ?_
  rintro e W1 ⟨rfl, hB⟩
  go_wp2_with ((with_reducible refine convert_mark (.tmp 20) ?_ ?_ Tryz.underlying29 Tryz.underlying5 W1.heap.size 0 3 3 3 ?_ (shape_new W1 _ _) ?_); rfl; rfl; rfl; (refine Pause.back ?_))
  have hRd : Rd u8V ((W1.alloc (.cells #[.int .u8 97, .int .u8 98, .int .u8 99] 5)).freeze ⟨W1.heap.size, 3, none⟩ 1) (.slice (some ⟨W1.heap.size, 0, none⟩) 3 3) [97, 98, 99] := lit_rd W1 [97, 98, 99] 5 #[.int .u8 97, .int .u8 98, .int .u8 99] rfl 3
  have hb : Below W1.heap.size W1 ((W1.alloc (.cells #[.int .u8 97, .int .u8 98, .int .u8 99] 5)).freeze ⟨W1.heap.size, 3, none⟩ 1) := lit_below W1 _ _
  generalize ((W1.alloc (.cells #[.int .u8 97, .int .u8 98, .int .u8 99] 5)).freeze ⟨W1.heap.size, 3, none⟩ 1) = Y1 at *
  replace hB := hB.trans (hb.mono hB.size)
  clear hb
  generalize W1.heap.size = mY at *
  refine Pause.out ?_
  have hZ : Row oV (Y1.alloc (.cells #[.slice none 0 0, .int .i64 0] 42)) Y1.heap.size 42 [on, oi 0] := Row.new _ _ rfl
  go_upto_region 3 with (((with_reducible refine store_agg (f := oV) (l := [on, oi 0]) (l' := [slO (some ⟨mY, 0, none⟩) 3 3, oi x]) (t := 42) (C := #[.slice (some ⟨mY, 0, none⟩) 3 3, .int .i64 x]) aggScp (.tmp 6) (.tmp 25) ?_ ?_ Y1.heap.size ?_ ?_ ?_ hZ ?_ oV_one ?_); rfl; rfl; rfl; rfl; rfl; rfl; (intro X hs hG hz)))
  have hBX := below_row (Below.refl Y1.heap.size Y1) hG
  have HA := Lib.hid (hRd.below hBX)
  replace hB := hB.trans (hBX.mono hB.size)
  have HR6 := Lib.hid hs
  have hl6 : Y1.heap.size < X.heap.size := hs.lt
  clear hBX hs hG hz hZ hRd hx1 hx2 hw1
  generalize Y1.heap.size = n6 at *
  rw [put_none]
  go_wp2_with ((with_reducible refine load_agg (f := oV) (l := [slO (some ⟨mY, 0, none⟩) 3 3, oi x]) (C := #[.slice (some ⟨mY, 0, none⟩) 3 3, .int .i64 x]) aggScp (.tmp 6) ?_ ?_ n6 0 ?_ HR6.out.at rfl ?_); rfl; rfl; rfl)
  refine (rScopeWords X (some ⟨mY, 0, none⟩) 3 [97, 98, 99] x HA.out (by decide) (by omega) (Nat.le_trans (scope_abc_len ⟨x, hx3⟩) (by decide))).mono ?_
  rintro e X2 ⟨pw, cw, rfl, hLv, hb⟩
  obtain ⟨ws, hws⟩ : ∃ ws, ws = Sc.upTo [97, 98, 99] (x + 1) := ⟨_, rfl⟩
  rw [← hws] at hLv ⊢
  have hwn : ws.length ≤ 40 := by rw [hws]; exact scope_abc_len ⟨x, hx3⟩
  have HWL : Hid (∀ i (h : i < ws.length), ws[i].length ≤ 140737488351232) := Lib.hid fun i h => by have := mem_upTo [97, 98, 99] (x + 1) ws[i] (by rw [← hws]; exact List.getElem_mem h); omega
  replace hws := Lib.hid hws
  have HW := Lib.hid hLv
  replace HA := Lib.hid (HA.out.below hb)
  replace HR6 := Lib.hid (HR6.out.below hb hl6)
  replace hl6 : n6 < X2.heap.size := Nat.lt_of_lt_of_le hl6 hb.size
  replace hB := hB.trans (hb.mono hB.size)
  clear hb hLv
  go_wp2_with fail
  refine (rMade X2 p1 c1 l (HL.out.below hB)).mono ?_
  rintro e X3 ⟨pc, pr, pe, kc, kr, ke, rfl, hN, hb⟩
  replace HA := Lib.hid (HA.out.below hb)
  replace HR6 := Lib.hid (HR6.out.below hb hl6)
  replace hl6 : n6 < X3.heap.size := Nat.lt_of_lt_of_le hl6 hb.size
  replace HW := Lib.hid (HW.out.below hb)
  replace hB := hB.trans (hb.mono hB.size)
  have hval := Lib.hid (made_valid l)
  have hcov := Lib.hid (made_cov l)
  clear hb HL
  generalize made l = N at *
  have hZ : Row oV (X3.alloc (.cells #[.slice none 0 0, .slice none 0 0, .slice none 0 0] 26)) X3.heap.size 26 [on, on, on] := Row.new _ _ rfl
  go_upto_region 5 with (((with_reducible refine store_agg (f := oV) (l := [on, on, on]) (l' := [slO pc N.cls.length kc, slO pr N.rows.length kr, slO pe N.ends.length ke]) (t := 26) (C := #[.slice pc N.cls.length kc, .slice pr N.rows.length kr, .slice pe N.ends.length ke]) aggNorm (.tmp 8) (.tmp 29) ?_ ?_ X3.heap.size ?_ ?_ ?_ hZ ?_ oV_one ?_); rfl; rfl; rfl; rfl; rfl; rfl; (intro X4 hs hG hz)))
  have hBX := below_row (Below.refl X3.heap.size X3) hG
  have HN := Lib.hid (hN.below hBX)
  have HR8 := Lib.hid hs
  have hl8 : X3.heap.size < X4.heap.size := hs.lt
  replace HA := Lib.hid (HA.out.below hBX)
  replace HR6 := Lib.hid (HR6.out.below hBX hl6)
  replace hl6 : n6 < X4.heap.size := Nat.lt_of_lt_of_le hl6 hBX.size
  replace HW := Lib.hid (HW.out.below hBX)
  replace hB := hB.trans (hBX.mono hB.size)
  clear hBX hs hG hz hZ hN
  generalize X3.heap.size = n8 at *
  rw [put_none]
  have hX4 : Below X4.heap.size X4 X4 := Below.refl _ _
  replace hX4 := Lib.hid hX4
  go_wp2_with fail
  go_loopw [9, 10] (fun s9 s10 wx => ∃ k r : Nat, k ≤ ws.length ∧ s10 = .int .i64 k ∧ s9 = .int .i64 r ∧ Hid (r = refused N (ws.take k)) ∧ Below X4.heap.size X4 wx) (fun _ i _ => ws.length - (intOf i).toNat)
  case atStart => exact ⟨0, 0, by omega, rfl, rfl, Lib.hid rfl, hX4.out⟩
  case round =>
    clear hX4
    obtain ⟨k, r, hk, rfl, rfl, hr, hb⟩ := hrel
    by_cases hlt : k < ws.length
    · have hq : (k : Int) < (ws.length : Int) := by omega
      have hrk : r ≤ 40 := by
        have h1 := refused_le N (ws.take k)
        rw [List.length_take] at h1
        rw [hr.out]; omega
      obtain ⟨bw, qw, mw, kw, rfl, hcc, hmw, hOw⟩ := HW.out.elem k hlt
      subst hmw
      have hbw := (HW.out.row bw rfl).2
      have HCE : Hid (∀ Y, Below X4.heap.size X4 Y → Y.cell? ⟨bw, k, none⟩ = some (.slice qw (ws[k]'hlt).length kw) ∧ Rd u8V Y (.slice qw (ws[k]'hlt).length kw) ws[k] ∧ Row oV Y n8 26 [slO pc N.cls.length kc, slO pr N.rows.length kr, slO pe N.ends.length ke]) := Lib.hid fun Y hY => ⟨(hY.cell (p := ⟨bw, k, none⟩) hbw).trans hcc, hOw.rd.below hY, HR8.out.below hY hl8⟩
      have hrt := Lib.hid (refused_take N ws k hlt)
      have hwk := HWL.out k hlt
      clear hcc hOw hbw
      generalize hxw : ws[k]'hlt = xw at *
      clear hxw
      go_wp2_with fail
      go_cut [11, 12] (fun s11 s12 wx => (∃ (po : Option Addr) (n ko : Nat), s11 = .slice po n ko) ∧ s12 = .bool (N.acc xw) ∧ Below X4.heap.size X4 wx)
      · refine wp_region_held_drew (S := fun XX => Below X4.heap.size X4 XX) rfl hb.drew fun hS => ?_
        refine takeD (i := 0) (d := 37) (v := .agg #[.slice pc N.cls.length kc, .slice pr N.rows.length kr, .slice pe N.ends.length ke]) rfl rfl (by kernel_rfl) (by kernel_rfl) (by kernel_rfl) (fun c a w h => h) (yieldsIf_load (f := oV) (l := [slO pc N.cls.length kc, slO pr N.rows.length kr, slO pe N.ends.length ke]) aggNorm (.tmp 8) rfl n8 0 rfl (fun W' h => (HCE.out W' h).2.2.at) rfl rfl) hS ?_
        simp only [List.setIfInBounds_toArray, List.set_cons_succ, List.set_cons_zero]
        refine takeD (i := 1) (d := 38) (v := .slice (some ⟨bw, 0, none⟩) ws.length cw) rfl rfl (by kernel_rfl) (by kernel_rfl) (by kernel_rfl) (fun c a w h => h) (yieldsIf_op rfl (fun w => by first | rfl | kernel_rfl | (go_simp; done))) hS ?_
        simp only [List.setIfInBounds_toArray, List.set_cons_succ, List.set_cons_zero]
        refine takeD (i := 2) (d := 39) (v := .int .i64 k) rfl rfl (by kernel_rfl) (by kernel_rfl) (by kernel_rfl) (fun c a w h => h) (yieldsIf_op rfl (fun w => by first | rfl | kernel_rfl | (go_simp; done))) hS ?_
        simp only [List.setIfInBounds_toArray, List.set_cons_succ, List.set_cons_zero]
        refine takeD (i := 3) (d := 40) (v := .pointer (some ⟨bw, 0 + k, none⟩)) rfl rfl (by kernel_rfl) (by kernel_rfl) (by kernel_rfl) (fun c a w h => h) (yieldsIf_op rfl (fun w => by go_simp)) hS ?_
        simp only [List.setIfInBounds_toArray, List.set_cons_succ, List.set_cons_zero]
        refine takeD (i := 4) (d := 41) (v := .slice qw xw.length kw) rfl rfl (by kernel_rfl) (by kernel_rfl) (by kernel_rfl) (fun c a w h => h) (.inl ⟨by first | rfl | kernel_rfl, fun W' h => by have q0 := (HCE.out W' h).1; go_simp⟩) hS ?_
        simp only [List.setIfInBounds_toArray, List.set_cons_succ, List.set_cons_zero]
        refine wpAnyH_ready (rs := [5]) (by kernel_rfl) (by simp) (AllReadyH.cons rfl (fun K' hK => ?_) AllReadyH.nil)
        refine callD (d := 42) (g := 9) (args := #[.agg #[.slice pc N.cls.length kc, .slice pr N.rows.length kr, .slice pe N.ends.length ke], .slice qw xw.length kw]) rfl rfl (by first | kernel_rfl | (simp [execOp, resolve, invoke, Act.eval]) | go_simp) ?_
        refine (nRun _ N pc pr pe qw kc kr ke kw xw (HN.out.below hS) (HCE.out _ hS).2.1 hwk hcov.out).mono ?_
        rintro e A1 ⟨hBx, ⟨hno, rfl⟩ | ⟨hyes, m, _, po, ko, rfl, hO⟩⟩
        · replace hno := Lib.hid hno
          replace hS := hS.trans (hBx.mono hS.size)
          refine ⟨_, rfl, hK.out _ _ hS fun _ => ?_⟩
          clear hK
          simp only [List.setIfInBounds_toArray, List.set_cons_succ, List.set_cons_zero]
          refine takeD (i := 6) (d := 36) (v := .tuple #[.slice none 0 0, .bool false]) rfl rfl (by kernel_rfl) (by kernel_rfl) (by kernel_rfl) (fun c a w h => h) (yieldsIf_op rfl (fun w => by first | rfl | kernel_rfl | (go_simp; done))) hS ?_
          simp only [List.setIfInBounds_toArray, List.set_cons_succ, List.set_cons_zero]
          refine takeD (i := 7) (d := 43) (v := .slice none 0 0) rfl rfl (by kernel_rfl) (by kernel_rfl) (by kernel_rfl) (fun c a w h => h) (yieldsIf_op rfl (fun w => by first | rfl | kernel_rfl | (go_simp; done))) hS ?_
          simp only [List.setIfInBounds_toArray, List.set_cons_succ, List.set_cons_zero]
          refine takeD (i := 8) (d := 44) (v := .bool false) rfl rfl (by kernel_rfl) (by kernel_rfl) (by kernel_rfl) (fun c a w h => h) (yieldsIf_op rfl (fun w => by first | rfl | kernel_rfl | (go_simp; done))) hS ?_
          simp only [List.setIfInBounds_toArray, List.set_cons_succ, List.set_cons_zero]
          refine takeD (i := 9) (d := 11) (v := .slice none 0 0) rfl rfl (by kernel_rfl) (by kernel_rfl) (by kernel_rfl) (fun c a w h => h) (yieldsIf_op rfl (fun w => by first | rfl | kernel_rfl | (go_simp; done))) hS ?_
          simp only [List.setIfInBounds_toArray, List.set_cons_succ, List.set_cons_zero]
          refine takeD (i := 10) (d := 12) (v := .bool false) rfl rfl (by kernel_rfl) (by kernel_rfl) (by kernel_rfl) (fun c a w h => h) (yieldsIf_op rfl (fun w => by first | rfl | kernel_rfl | (go_simp; done))) hS ?_
          simp only [List.setIfInBounds_toArray, List.set_cons_succ, List.set_cons_zero]
          refine wpAnyH_done (by kernel_rfl) ?_ _
          go_wp2
          go_meet
          exact ⟨⟨none, 0, 0, rfl⟩, by rw [hno.out], hS⟩
        · replace hyes := Lib.hid hyes
          replace hS := hS.trans (hBx.mono hS.size)
          refine ⟨_, rfl, hK.out _ _ hS fun _ => ?_⟩
          clear hK
          simp only [List.setIfInBounds_toArray, List.set_cons_succ, List.set_cons_zero]
          refine takeD (i := 6) (d := 36) (v := .tuple #[.slice po m.length ko, .bool true]) rfl rfl (by kernel_rfl) (by kernel_rfl) (by kernel_rfl) (fun c a w h => h) (yieldsIf_op rfl (fun w => by first | rfl | kernel_rfl | (go_simp; done))) hS ?_
          simp only [List.setIfInBounds_toArray, List.set_cons_succ, List.set_cons_zero]
          refine takeD (i := 7) (d := 43) (v := .slice po m.length ko) rfl rfl (by kernel_rfl) (by kernel_rfl) (by kernel_rfl) (fun c a w h => h) (yieldsIf_op rfl (fun w => by first | rfl | kernel_rfl | (go_simp; done))) hS ?_
          simp only [List.setIfInBounds_toArray, List.set_cons_succ, List.set_cons_zero]
          refine takeD (i := 8) (d := 44) (v := .bool true) rfl rfl (by kernel_rfl) (by kernel_rfl) (by kernel_rfl) (fun c a w h => h) (yieldsIf_op rfl (fun w => by first | rfl | kernel_rfl | (go_simp; done))) hS ?_
          simp only [List.setIfInBounds_toArray, List.set_cons_succ, List.set_cons_zero]
          refine takeD (i := 9) (d := 11) (v := .slice po m.length ko) rfl rfl (by kernel_rfl) (by kernel_rfl) (by kernel_rfl) (fun c a w h => h) (yieldsIf_op rfl (fun w => by first | rfl | kernel_rfl | (go_simp; done))) hS ?_
          simp only [List.setIfInBounds_toArray, List.set_cons_succ, List.set_cons_zero]
          refine takeD (i := 10) (d := 12) (v := .bool true) rfl rfl (by kernel_rfl) (by kernel_rfl) (by kernel_rfl) (fun c a w h => h) (yieldsIf_op rfl (fun w => by first | rfl | kernel_rfl | (go_simp; done))) hS ?_
          simp only [List.setIfInBounds_toArray, List.set_cons_succ, List.set_cons_zero]
          refine wpAnyH_done (by kernel_rfl) ?_ _
          go_wp2
          go_meet
          exact ⟨⟨po, m.length, ko, rfl⟩, by rw [hyes.out], hS⟩
      obtain ⟨⟨po, n, ko, rfl⟩, rfl, hb2⟩ := hcut
      clear hb HCE
      cases hac : N.acc xw with
      | true =>
        have he : Hid (r = refused N (ws.take (k + 1))) := Lib.hid (by rw [hrt.out, hac, ← hr.out]; rfl)
        clear hrt hr hac
        go_wp2_with fail
        go_roundw
        case rel => exact ⟨k + 1, r, by omega, by go_num, rfl, he, hb2⟩
        case measure => simp [intOf] <;> omega
      | false =>
        have he : Hid (r + 1 = refused N (ws.take (k + 1))) := Lib.hid (by rw [hrt.out, hac, ← hr.out]; rfl)
        clear hrt hr hac
        go_wp2_with fail
        go_roundw
        case rel => exact ⟨k + 1, r + 1, by omega, by go_num, by go_num, he, hb2⟩
        case measure => simp [intOf] <;> omega
    · obtain rfl : k = ws.length := by omega
      have hq : ¬ (ws.length : Int) < (ws.length : Int) := by omega
      rw [List.take_of_length_le (Nat.le_refl _)] at hr
      replace HN := Lib.hid (HN.out.below hb)
      replace HA := Lib.hid (HA.out.below hb)
      replace HR6 := Lib.hid (HR6.out.below hb hl6)
      replace HR8 := Lib.hid (HR8.out.below hb hl8)
      replace hB := hB.trans (hb.mono hB.size)
      replace hl6 : n6 < wr.heap.size := Nat.lt_of_lt_of_le hl6 hb.size
      clear hb HW HWL
      have hc1 := nRefusals wr N pc pr pe (some ⟨mY, 0, none⟩) kc kr ke 3 [97, 98, 99] x HN.out HA.out (by decide) (by omega) inc3 hcov.out hval.out (scope_abc ⟨x, hx3⟩)
      rw [← hws.out, ← hr.out] at hc1
      replace hc1 := Lib.hid hc1
      go_wp2_with (first | ((with_reducible refine load_agg (f := oV) (l := [slO pc N.cls.length kc, slO pr N.rows.length kr, slO pe N.ends.length ke]) (C := #[.slice pc N.cls.length kc, .slice pr N.rows.length kr, .slice pe N.ends.length ke]) aggNorm (.tmp 8) ?_ ?_ n8 0 ?_ HR8.out.at rfl ?_); rfl; rfl; rfl) | ((with_reducible refine load_agg (f := oV) (l := [slO (some ⟨mY, 0, none⟩) 3 3, oi x]) (C := #[.slice (some ⟨mY, 0, none⟩) 3 3, .int .i64 x]) aggScp (.tmp 6) ?_ ?_ n6 0 ?_ HR6.out.at rfl ?_); rfl; rfl; rfl))
      refine hc1.out.mono ?_
      rintro e Z1 ⟨rfl, hb⟩
      replace HA := Lib.hid (HA.out.below hb)
      replace HR6 := Lib.hid (HR6.out.below hb hl6)
      replace hB := hB.trans (hb.mono hB.size)
      replace hl6 : n6 < Z1.heap.size := Nat.lt_of_lt_of_le hl6 hb.size
      clear hb hc1 HN HR8 hl8
      go_upto_region 13 with (fail)
      go_cut [15, 16] (fun sa sb wx => sa = .int .i64 ((0 : Nat) : Int) ∧ sb = .int .i64 0 ∧ Below Z1.heap.size Z1 wx)
      · refine wp_region_held_drew (S := fun XX => Below Z1.heap.size Z1 XX) rfl (Below.refl _ _).drew fun hS => ?_
        refine takeD (i := 1) (d := 57) (v := .agg #[.slice (some ⟨mY, 0, none⟩) 3 3, .int .i64 x]) rfl rfl (by kernel_rfl) (by kernel_rfl) (by kernel_rfl) (fun c a w h => h) (yieldsIf_load (f := oV) (l := [slO (some ⟨mY, 0, none⟩) 3 3, oi x]) aggScp (.tmp 6) rfl n6 0 rfl (fun W' h => (HR6.out.below h hl6).at) rfl rfl) hS ?_
        simp only [List.setIfInBounds_toArray, List.set_cons_succ, List.set_cons_zero]
        refine wpAnyH_ready (rs := [0]) (by kernel_rfl) (by simp) (AllReadyH.cons rfl (fun K' hK => ?_) AllReadyH.nil)
        refine callD (d := 56) (g := 20) (args := #[]) rfl rfl (by first | kernel_rfl | (simp [execOp, resolve, invoke, Act.eval]) | go_simp) ?_
        refine (rPassing _).mono ?_
        rintro e A1 ⟨qc, qr, qe, jc, rfl, hP, hBx⟩
        replace hS := hS.trans (hBx.mono hS.size)
        refine ⟨_, rfl, hK.out _ _ hS fun _ => ?_⟩
        clear hK
        simp only [List.setIfInBounds_toArray, List.set_cons_succ, List.set_cons_zero]
        refine wpAnyH_ready (rs := [2]) (by kernel_rfl) (by simp) (AllReadyH.cons rfl (fun K' hK => ?_) AllReadyH.nil)
        refine callD (d := 58) (g := 19) (args := #[.agg #[.slice qc passN.cls.length jc, .slice qr passN.rows.length 1, .slice qe passN.ends.length 1], .agg #[.slice (some ⟨mY, 0, none⟩) 3 3, .int .i64 x]]) rfl rfl (by first | kernel_rfl | (simp [execOp, resolve, invoke, Act.eval]) | go_simp) ?_
        have hc1 := nRefusals A1 passN qc qr qe (some ⟨mY, 0, none⟩) jc 1 1 3 [97, 98, 99] x hP (HA.out.below hS) (by decide) (by omega) inc3 pass_cov pass_valid (scope_abc ⟨x, hx3⟩)
        rw [← hws.out, refused_pass] at hc1
        refine hc1.mono ?_
        rintro e A2 ⟨rfl, hBx2⟩
        clear hc1
        replace hS := hS.trans (hBx2.mono hS.size)
        refine ⟨_, rfl, hK.out _ _ hS fun _ => ?_⟩
        clear hK
        simp only [List.setIfInBounds_toArray, List.set_cons_succ, List.set_cons_zero]
        refine takeD (i := 3) (d := 55) (v := .tuple #[.int .i64 ((0 : Nat) : Int), .int .i64 0]) rfl rfl (by kernel_rfl) (by kernel_rfl) (by kernel_rfl) (fun c a w h => h) (yieldsIf_op rfl (fun w => by first | rfl | kernel_rfl | (go_simp; done))) hS ?_
        simp only [List.setIfInBounds_toArray, List.set_cons_succ, List.set_cons_zero]
        refine takeD (i := 4) (d := 59) (v := .int .i64 ((0 : Nat) : Int)) rfl rfl (by kernel_rfl) (by kernel_rfl) (by kernel_rfl) (fun c a w h => h) (yieldsIf_op rfl (fun w => by first | rfl | kernel_rfl | (go_simp; done))) hS ?_
        simp only [List.setIfInBounds_toArray, List.set_cons_succ, List.set_cons_zero]
        refine takeD (i := 5) (d := 60) (v := .int .i64 0) rfl rfl (by kernel_rfl) (by kernel_rfl) (by kernel_rfl) (fun c a w h => h) (yieldsIf_op rfl (fun w => by first | rfl | kernel_rfl | (go_simp; done))) hS ?_
        simp only [List.setIfInBounds_toArray, List.set_cons_succ, List.set_cons_zero]
        refine takeD (i := 6) (d := 15) (v := .int .i64 ((0 : Nat) : Int)) rfl rfl (by kernel_rfl) (by kernel_rfl) (by kernel_rfl) (fun c a w h => h) (yieldsIf_op rfl (fun w => by first | rfl | kernel_rfl | (go_simp; done))) hS ?_
        simp only [List.setIfInBounds_toArray, List.set_cons_succ, List.set_cons_zero]
        refine takeD (i := 7) (d := 16) (v := .int .i64 0) rfl rfl (by kernel_rfl) (by kernel_rfl) (by kernel_rfl) (fun c a w h => h) (yieldsIf_op rfl (fun w => by first | rfl | kernel_rfl | (go_simp; done))) hS ?_
        simp only [List.setIfInBounds_toArray, List.set_cons_succ, List.set_cons_zero]
        refine wpAnyH_done (by kernel_rfl) ?_ _
        go_wp2
        go_meet
        exact ⟨rfl, rfl, hS⟩
      obtain ⟨rfl, rfl, hb⟩ := hcut
      obtain ⟨Z2, hz0⟩ : ∃ Z, Z = wc := ⟨_, rfl⟩
      subst hz0
      replace HA := Lib.hid (HA.out.below hb)
      replace HR6 := Lib.hid (HR6.out.below hb hl6)
      replace hB := hB.trans (hb.mono hB.size)
      replace hl6 : n6 < Z2.heap.size := Nat.lt_of_lt_of_le hl6 hb.size
      clear hb
      go_upto_region 14 with (fail)
      go_cut [17, 18] (fun sa sb wx => sa = .int .i64 (ws.length : Nat) ∧ sb = .int .i64 0 ∧ Below Z2.heap.size Z2 wx)
      · refine wp_region_held_drew (S := fun XX => Below Z2.heap.size Z2 XX) rfl (Below.refl _ _).drew fun hS => ?_
        refine takeD (i := 1) (d := 63) (v := .agg #[.slice (some ⟨mY, 0, none⟩) 3 3, .int .i64 x]) rfl rfl (by kernel_rfl) (by kernel_rfl) (by kernel_rfl) (fun c a w h => h) (yieldsIf_load (f := oV) (l := [slO (some ⟨mY, 0, none⟩) 3 3, oi x]) aggScp (.tmp 6) rfl n6 0 rfl (fun W' h => (HR6.out.below h hl6).at) rfl rfl) hS ?_
        simp only [List.setIfInBounds_toArray, List.set_cons_succ, List.set_cons_zero]
        refine wpAnyH_ready (rs := [0]) (by kernel_rfl) (by simp) (AllReadyH.cons rfl (fun K' hK => ?_) AllReadyH.nil)
        refine callD (d := 62) (g := 21) (args := #[]) rfl rfl (by first | kernel_rfl | (simp [execOp, resolve, invoke, Act.eval]) | go_simp) ?_
        refine (rRefusing _).mono ?_
        rintro e A1 ⟨qc, qr, qe, jc, rfl, hP, hBx⟩
        replace hS := hS.trans (hBx.mono hS.size)
        refine ⟨_, rfl, hK.out _ _ hS fun _ => ?_⟩
        clear hK
        simp only [List.setIfInBounds_toArray, List.set_cons_succ, List.set_cons_zero]
        refine wpAnyH_ready (rs := [2]) (by kernel_rfl) (by simp) (AllReadyH.cons rfl (fun K' hK => ?_) AllReadyH.nil)
        refine callD (d := 64) (g := 19) (args := #[.agg #[.slice qc refuseN.cls.length jc, .slice qr refuseN.rows.length 1, .slice qe refuseN.ends.length 1], .agg #[.slice (some ⟨mY, 0, none⟩) 3 3, .int .i64 x]]) rfl rfl (by first | kernel_rfl | (simp [execOp, resolve, invoke, Act.eval]) | go_simp) ?_
        have hc1 := nRefusals A1 refuseN qc qr qe (some ⟨mY, 0, none⟩) jc 1 1 3 [97, 98, 99] x hP (HA.out.below hS) (by decide) (by omega) inc3 refuse_cov refuse_valid (scope_abc ⟨x, hx3⟩)
        rw [← hws.out, refused_refuse] at hc1
        refine hc1.mono ?_
        rintro e A2 ⟨rfl, hBx2⟩
        clear hc1
        replace hS := hS.trans (hBx2.mono hS.size)
        refine ⟨_, rfl, hK.out _ _ hS fun _ => ?_⟩
        clear hK
        simp only [List.setIfInBounds_toArray, List.set_cons_succ, List.set_cons_zero]
        refine takeD (i := 3) (d := 61) (v := .tuple #[.int .i64 (ws.length : Nat), .int .i64 0]) rfl rfl (by kernel_rfl) (by kernel_rfl) (by kernel_rfl) (fun c a w h => h) (yieldsIf_op rfl (fun w => by first | rfl | kernel_rfl | (go_simp; done))) hS ?_
        simp only [List.setIfInBounds_toArray, List.set_cons_succ, List.set_cons_zero]
        refine takeD (i := 4) (d := 65) (v := .int .i64 (ws.length : Nat)) rfl rfl (by kernel_rfl) (by kernel_rfl) (by kernel_rfl) (fun c a w h => h) (yieldsIf_op rfl (fun w => by first | rfl | kernel_rfl | (go_simp; done))) hS ?_
        simp only [List.setIfInBounds_toArray, List.set_cons_succ, List.set_cons_zero]
        refine takeD (i := 5) (d := 66) (v := .int .i64 0) rfl rfl (by kernel_rfl) (by kernel_rfl) (by kernel_rfl) (fun c a w h => h) (yieldsIf_op rfl (fun w => by first | rfl | kernel_rfl | (go_simp; done))) hS ?_
        simp only [List.setIfInBounds_toArray, List.set_cons_succ, List.set_cons_zero]
        refine takeD (i := 6) (d := 17) (v := .int .i64 (ws.length : Nat)) rfl rfl (by kernel_rfl) (by kernel_rfl) (by kernel_rfl) (fun c a w h => h) (yieldsIf_op rfl (fun w => by first | rfl | kernel_rfl | (go_simp; done))) hS ?_
        simp only [List.setIfInBounds_toArray, List.set_cons_succ, List.set_cons_zero]
        refine takeD (i := 7) (d := 18) (v := .int .i64 0) rfl rfl (by kernel_rfl) (by kernel_rfl) (by kernel_rfl) (fun c a w h => h) (yieldsIf_op rfl (fun w => by first | rfl | kernel_rfl | (go_simp; done))) hS ?_
        simp only [List.setIfInBounds_toArray, List.set_cons_succ, List.set_cons_zero]
        refine wpAnyH_done (by kernel_rfl) ?_ _
        go_wp2
        go_meet
        exact ⟨rfl, rfl, hS⟩
      obtain ⟨rfl, rfl, hb⟩ := hcut
      obtain ⟨Z3, hz0⟩ : ∃ Z, Z = wc := ⟨_, rfl⟩
      subst hz0
      replace HA := Lib.hid (HA.out.below hb)
      replace HR6 := Lib.hid (HR6.out.below hb hl6)
      replace hB := hB.trans (hb.mono hB.size)
      replace hl6 : n6 < Z3.heap.size := Nat.lt_of_lt_of_le hl6 hb.size
      clear hb
      clear hws hr HA HR6
      go_upto_region 15 with (fail)
      go_wp2
      go_ret
      exact ⟨rfl, hB⟩
end Go.Proofs.YtgflelodpcgmbaaGreatDoor
