/- The walk of univocallaw25.NormalBounds: it returns true. -/
import Derived.Test.YtgflelodpcgmbaaGreatDoorMLStreamW
namespace Go.Proofs.YtgflelodpcgmbaaGreatDoor
open Go Go.RowKit Mem
set_option maxRecDepth 100000

set_option maxHeartbeats 32000000 in
theorem boundsW (w : World) (p1 p2 : Option Addr) (c1 c2 : Nat) (l b : List UInt8) (k0 : UInt8) (hl : Rd u8V w (.slice p1 l.length c1) l) (hb0 : Rd u8V w (.slice p2 b.length c2) b) (hbn : b.length ≤ 140737488351232) :
    Calls Tryz.prog 6 #[.slice p1 l.length c1, .slice p2 b.length c2, .int .u8 (k0.toNat : Int)] w fun e w' => e = .returned (.bool true) ∧ Below w.heap.size w w' := by
  have HL := Lib.hid hl
  have HB := Lib.hid hb0
  clear hl hb0
  go_enter Tryz.func6, Tryz.ntmps6
  go_upto_region 1 with (fail)
  go_wp2_with fail
  refine (sanity1 w).mono ?_
  rintro e W1 ⟨rfl, hB⟩
  go_wp2_with fail
  refine (rMade W1 p1 c1 l (HL.out.below hB)).mono ?_
  rintro e W2 ⟨pc, pr, pe, kc, kr, ke, rfl, hN, hb1⟩
  replace hB := hB.trans (hb1.mono hB.size)
  have hval := made_valid l
  have hcov := made_cov l
  clear hb1 HL
  generalize made l = N at *
  have hZ : Row oV (W2.alloc (.cells #[.slice none 0 0, .slice none 0 0, .slice none 0 0] 26)) W2.heap.size 26 [on, on, on] := Row.new _ _ rfl
  go_upto_region 3 with (((with_reducible refine store_agg (f := oV) (l := [on, on, on]) (l' := [slO pc N.cls.length kc, slO pr N.rows.length kr, slO pe N.ends.length ke]) (t := 26) (C := #[.slice pc N.cls.length kc, .slice pr N.rows.length kr, .slice pe N.ends.length ke]) aggNorm (.tmp 8) (.tmp 18) ?_ ?_ W2.heap.size ?_ ?_ ?_ hZ ?_ oV_one ?_); rfl; rfl; rfl; rfl; rfl; rfl; (intro X hs hG hz)))
  have hBX := below_row (Below.refl W2.heap.size W2) hG
  have HN := Lib.hid (hN.below hBX)
  replace hB := hB.trans (hBX.mono hB.size)
  have HR8 := Lib.hid hs
  have hl8 : W2.heap.size < X.heap.size := hs.lt
  replace HB := Lib.hid (HB.out.below hB)
  clear hBX hs hG hz hZ hN
  generalize W2.heap.size = n8 at *
  rw [put_none]
  go_cut [9, 10] (fun s9 s10 wx => ∃ (po : Option Addr) (ko : Nat) (m : List UInt8) (a : Bool), s9 = .slice po m.length ko ∧ s10 = .bool a ∧ Rd u8V wx (.slice po m.length ko) m ∧ Hid (a = N.acc b ∧ m = if a = true then (N.run ⟨0, false, []⟩ b).out else []) ∧ Below X.heap.size X wx)
  · go_wp2_with ((with_reducible refine load_agg (f := oV) (l := [slO pc N.cls.length kc, slO pr N.rows.length kr, slO pe N.ends.length ke]) (C := #[.slice pc N.cls.length kc, .slice pr N.rows.length kr, .slice pe N.ends.length ke]) aggNorm (.tmp 8) ?_ ?_ n8 0 ?_ HR8.out.at rfl ?_); rfl; rfl; rfl)
    refine (nRun X N pc pr pe p2 kc kr ke c2 b HN.out HB.out hbn hcov).mono ?_
    rintro e X8 ⟨hb, hres⟩
    rcases hres with ⟨hno, rfl⟩ | ⟨hyes, m, hm, po, ko, rfl, hO⟩
    · replace hno := Lib.hid hno
      go_wp2
      go_meet
      exact ⟨none, 0, [], false, rfl, rfl, .inl ⟨none, rfl, rfl⟩, Lib.hid ⟨hno.out.symm, rfl⟩, hb⟩
    · replace hyes := Lib.hid hyes
      replace hO := Lib.hid hO
      go_wp2
      go_meet
      exact ⟨po, ko, m, true, rfl, rfl, hO.out.rd, Lib.hid ⟨hyes.out.symm, hm.out⟩, hb⟩
  obtain ⟨pm, km, m, ac, rfl, rfl, hrd, HM, hb⟩ := hcut
  obtain ⟨X4, hz0⟩ : ∃ Z, Z = wc := ⟨_, rfl⟩
  subst hz0
  have RM := Lib.hid hrd
  replace HN := Lib.hid (HN.out.below hb)
  replace HR8 := Lib.hid (HR8.out.below hb hl8)
  replace hl8 : n8 < X4.heap.size := Nat.lt_of_lt_of_le hl8 hb.size
  replace HB := Lib.hid (HB.out.below hb)
  replace hB := hB.trans (hb.mono hB.size)
  clear hb hrd
  obtain ⟨i, hib, hik, hmi⟩ : ∃ i : Nat, i ≤ b.length ∧ i ≤ 255 ∧ min (k0.toNat : Int) (b.length : Int) = (i : Int) := ⟨min k0.toNat b.length, Nat.min_le_right _ _, by have := k0.toNat_lt; omega, by omega⟩
  have hk0 := k0.toNat_lt
  generalize k0.toNat = x0 at *
  go_upto_region 5 with (fail)
  clear hmi hk0
  obtain ⟨S, HS⟩ : ∃ s, Hid (s = N.run ⟨0, false, []⟩ (b.take i)) := ⟨_, Lib.hid rfl⟩
  have ok0 : Hid (N.okAt 0 = true) := Lib.hid (NZ.okAt_of hval (NZ.rows_pos hval))
  have hSl : S.out.length ≤ i := by
    have h := N.out_le (b.take i) ⟨0, false, []⟩
    rw [← HS.out, List.length_take] at h
    simp at h
    omega
  have HP : Hid (S.out <+: (N.run ⟨0, false, []⟩ b).out) := Lib.hid (by
    have h := NZ.begins hval hcov (b.take i) (b.drop i)
    rw [List.take_append_drop, ← HS.out] at h
    exact h)
  have HO : Hid ((N.run ⟨0, false, []⟩ b).out.length ≤ b.length) := Lib.hid (by have := N.out_le b ⟨0, false, []⟩; simpa using this)
  obtain ⟨q, hsl, hpt⟩ := cut_h Tryz.underlying29 size8 HB.out i hib
  have hpl : (b.take i).length ≤ 140737488351232 := by rw [List.length_take]; omega
  have HPT := Lib.hid hpt
  clear hpt
  replace hSl := Lib.hid hSl
  go_cut [12, 13] (fun sa sb wx => ∃ nb po ko, sa = .pointer (some ⟨nb, 0, none⟩) ∧ sb = .slice po S.out.length ko ∧ Row oV wx nb 28 [oi S.pos, ob S.ref] ∧ Rd u8V wx (.slice po S.out.length ko) S.out ∧ Below X4.heap.size X4 wx)
  · refine wp_region_held_drew (S := fun XX => Below X4.heap.size X4 XX) rfl (Below.refl _ _).drew fun hS => ?_
    refine takeD (i := 0) (d := 31) (v := .agg #[.slice pc N.cls.length kc, .slice pr N.rows.length kr, .slice pe N.ends.length ke]) rfl rfl (by kernel_rfl) (by kernel_rfl) (by kernel_rfl) (fun c a w h => h) (yieldsIf_load (f := oV) (l := [slO pc N.cls.length kc, slO pr N.rows.length kr, slO pe N.ends.length ke]) aggNorm (.tmp 8) rfl n8 0 rfl (fun W' h => (HR8.out.below h hl8).at) rfl rfl) hS ?_
    simp only [List.setIfInBounds_toArray, List.set_cons_succ, List.set_cons_zero]
    refine takeD (i := 1) (d := 32) (v := .agg #[.int .i64 0, .bool false]) rfl rfl (by kernel_rfl) (by kernel_rfl) (by kernel_rfl) (fun c a w h => h) (yieldsIf_op rfl (fun w => by first | rfl | kernel_rfl | (go_simp; done))) hS ?_
    simp only [List.setIfInBounds_toArray, List.set_cons_succ, List.set_cons_zero]
    refine takeD (i := 2) (d := 33) (v := .slice p2 b.length c2) rfl rfl (by kernel_rfl) (by kernel_rfl) (by kernel_rfl) (fun c a w h => h) (yieldsIf_op rfl (fun w => by first | rfl | kernel_rfl | (go_simp; done))) hS ?_
    simp only [List.setIfInBounds_toArray, List.set_cons_succ, List.set_cons_zero]
    refine takeD (i := 3) (d := 34) (v := .int .i64 i) rfl rfl (by kernel_rfl) (by kernel_rfl) (by kernel_rfl) (fun c a w h => h) (yieldsIf_op rfl (fun w => by first | rfl | kernel_rfl | (go_simp; done))) hS ?_
    simp only [List.setIfInBounds_toArray, List.set_cons_succ, List.set_cons_zero]
    refine takeD (i := 4) (d := 35) (v := .slice q (b.take i).length c2) rfl rfl (by kernel_rfl) (by kernel_rfl) (by kernel_rfl) (fun c a w h => h) (.inl ⟨by first | rfl | kernel_rfl, fun W' h => by have q0 := hsl W'; go_simp⟩) hS ?_
    simp only [List.setIfInBounds_toArray, List.set_cons_succ, List.set_cons_zero]
    refine wpAnyH_ready (rs := [5, 9]) (by kernel_rfl) (by simp) (AllReadyH.cons rfl (fun K' hK => ?_) (AllReadyH.cons rfl (fun K' hK => ?_) AllReadyH.nil))
    · refine callD (d := 36) (g := 11) (args := #[.agg #[.slice pc N.cls.length kc, .slice pr N.rows.length kr, .slice pe N.ends.length ke], .agg #[.int .i64 0, .bool false], .slice q (b.take i).length c2]) rfl rfl (by first | kernel_rfl | (simp [execOp, resolve, invoke, Act.eval]) | go_simp) ?_
      refine (nFeed X4.drew N pc pr pe q kc kr ke c2 0 false (b.take i) (HN.out.below hS) (HPT.out.below hS) hpl hcov).mono ?_
      rintro e A1 ⟨hBx, ⟨hno, rfl⟩ | ⟨_, s, hsr, po, ko, rfl, hO⟩⟩
      · rw [ok0.out] at hno; cases hno
      have hse : S = s := HS.out.trans hsr.out.symm
      subst hse
      clear hsr
      replace hS := hS.trans (hBx.mono hS.size)
      refine ⟨_, rfl, hK.out _ _ hS fun _ => ?_⟩
      clear hK
      simp only [List.setIfInBounds_toArray, List.set_cons_succ, List.set_cons_zero]
      refine takeD (i := 6) (d := 30) (v := .tuple #[.agg #[.int .i64 S.pos, .bool S.ref], .slice po S.out.length ko]) rfl rfl (by kernel_rfl) (by kernel_rfl) (by kernel_rfl) (fun c a w h => h) (yieldsIf_op rfl (fun w => by first | rfl | kernel_rfl | (go_simp; done))) hS ?_
      simp only [List.setIfInBounds_toArray, List.set_cons_succ, List.set_cons_zero]
      refine takeD (i := 7) (d := 37) (v := .agg #[.int .i64 S.pos, .bool S.ref]) rfl rfl (by kernel_rfl) (by kernel_rfl) (by kernel_rfl) (fun c a w h => h) (yieldsIf_op rfl (fun w => by first | rfl | kernel_rfl | (go_simp; done))) hS ?_
      simp only [List.setIfInBounds_toArray, List.set_cons_succ, List.set_cons_zero]
      refine takeD (i := 8) (d := 38) (v := .slice po S.out.length ko) rfl rfl (by kernel_rfl) (by kernel_rfl) (by kernel_rfl) (fun c a w h => h) (yieldsIf_op rfl (fun w => by first | rfl | kernel_rfl | (go_simp; done))) hS ?_
      simp only [List.setIfInBounds_toArray, List.set_cons_succ, List.set_cons_zero]
      refine wpAnyH_ready (rs := [9]) (by kernel_rfl) (by simp) (AllReadyH.cons rfl (fun K' hK => ?_) AllReadyH.nil)
      · have hz : Row oV (A1.alloc (.cells #[.int .i64 0, .bool false] 28)) A1.heap.size 28 [oi 0, ob false] := Row.new _ _ rfl
        have hBx := below_al (Below.refl A1.heap.size A1) (Nat.le_refl _) (.cells #[.int .i64 0, .bool false] 28)
        refine allocD (d := 12) (ob := (.cells #[.int .i64 0, .bool false] 28)) rfl rfl (by first | rfl | kernel_rfl) ?_
        generalize (A1.alloc (.cells #[.int .i64 0, .bool false] 28)) = A2 at *
        have hlo : X4.heap.size ≤ A1.heap.size := hS.size
        have hOz : ∀ g, (Value.slice po S.out.length ko).ownBlock = some g → g ≠ A1.heap.size := fun g hg e => by have h1 := (hO.lt g hg).2; omega
        replace hO := hO.below' hBx
        replace hS := hS.trans (hBx.mono hS.size)
        refine hK.out _ _ hS fun _ => ?_
        clear hK
        simp only [List.setIfInBounds_toArray, List.set_cons_succ, List.set_cons_zero]
        refine wpAnyH_ready (rs := [10]) (by kernel_rfl) (by simp) (AllReadyH.cons rfl (fun K' hK => ?_) AllReadyH.nil)
        refine storeD (f := oV) (l := [oi 0, ob false]) (l' := [oi S.pos, ob S.ref]) (t := 28) (C := #[.int .i64 S.pos, .bool S.ref]) aggNS (.tmp 12) (.tmp 37) rfl rfl rfl A1.heap.size rfl rfl rfl hz rfl oV_one ?_
        intro Y hsY hGY
        have hbl := hlo
        have hSY := hS.grown hGY hS.size (fun k e => by cases e; exact hbl)
        replace hO := hO.grown' hGY (fun g hg e => by injection e with e; exact hOz g hg e)
        refine hK.out _ _ hSY fun _ => ?_
        clear hK hS
        have hS := hSY
        refine takeD (i := 11) (d := 13) (v := .slice po S.out.length ko) rfl rfl (by kernel_rfl) (by kernel_rfl) (by kernel_rfl) (fun c a w h => h) (yieldsIf_op rfl (fun w => by first | rfl | kernel_rfl | (go_simp; done))) hS ?_
        simp only [List.setIfInBounds_toArray, List.set_cons_succ, List.set_cons_zero]
        refine wpAnyH_done (by kernel_rfl) ?_ _
        go_wp2
        go_meet
        exact ⟨_, po, ko, rfl, rfl, hsY, hO.rd, hSY⟩
    · have hz : Row oV (X4.drew.alloc (.cells #[.int .i64 0, .bool false] 28)) X4.drew.heap.size 28 [oi 0, ob false] := Row.new _ _ rfl
      have hBx := below_al (Below.refl X4.drew.heap.size X4.drew) (Nat.le_refl _) (.cells #[.int .i64 0, .bool false] 28)
      refine allocD (d := 12) (ob := (.cells #[.int .i64 0, .bool false] 28)) rfl rfl (by first | rfl | kernel_rfl) ?_
      generalize (X4.drew.alloc (.cells #[.int .i64 0, .bool false] 28)) = A3 at *
      have hlo : X4.heap.size ≤ X4.drew.heap.size := hS.size
      replace hS := hS.trans (hBx.mono hS.size)
      refine hK.out _ _ hS fun _ => ?_
      clear hK
      simp only [List.setIfInBounds_toArray, List.set_cons_succ, List.set_cons_zero]
      refine wpAnyH_ready (rs := [5]) (by kernel_rfl) (by simp) (AllReadyH.cons rfl (fun K' hK => ?_) AllReadyH.nil)
      · refine callD (d := 36) (g := 11) (args := #[.agg #[.slice pc N.cls.length kc, .slice pr N.rows.length kr, .slice pe N.ends.length ke], .agg #[.int .i64 0, .bool false], .slice q (b.take i).length c2]) rfl rfl (by first | kernel_rfl | (simp [execOp, resolve, invoke, Act.eval]) | go_simp) ?_
        refine (nFeed A3 N pc pr pe q kc kr ke c2 0 false (b.take i) (HN.out.below hS) (HPT.out.below hS) hpl hcov).mono ?_
        rintro e A4 ⟨hBx, ⟨hno, rfl⟩ | ⟨_, s, hsr, po, ko, rfl, hO⟩⟩
        · rw [ok0.out] at hno; cases hno
        have hse : S = s := HS.out.trans hsr.out.symm
        subst hse
        clear hsr
        have hOz : ∀ g, (Value.slice po S.out.length ko).ownBlock = some g → g ≠ X4.drew.heap.size := fun g hg e => by have h1 := (hO.lt g hg).1; have h2 := hz.lt; omega
        replace hz := hz.below hBx hz.lt
        replace hS := hS.trans (hBx.mono hS.size)
        refine ⟨_, rfl, hK.out _ _ hS fun _ => ?_⟩
        clear hK
        simp only [List.setIfInBounds_toArray, List.set_cons_succ, List.set_cons_zero]
        refine takeD (i := 6) (d := 30) (v := .tuple #[.agg #[.int .i64 S.pos, .bool S.ref], .slice po S.out.length ko]) rfl rfl (by kernel_rfl) (by kernel_rfl) (by kernel_rfl) (fun c a w h => h) (yieldsIf_op rfl (fun w => by first | rfl | kernel_rfl | (go_simp; done))) hS ?_
        simp only [List.setIfInBounds_toArray, List.set_cons_succ, List.set_cons_zero]
        refine takeD (i := 7) (d := 37) (v := .agg #[.int .i64 S.pos, .bool S.ref]) rfl rfl (by kernel_rfl) (by kernel_rfl) (by kernel_rfl) (fun c a w h => h) (yieldsIf_op rfl (fun w => by first | rfl | kernel_rfl | (go_simp; done))) hS ?_
        simp only [List.setIfInBounds_toArray, List.set_cons_succ, List.set_cons_zero]
        refine takeD (i := 8) (d := 38) (v := .slice po S.out.length ko) rfl rfl (by kernel_rfl) (by kernel_rfl) (by kernel_rfl) (fun c a w h => h) (yieldsIf_op rfl (fun w => by first | rfl | kernel_rfl | (go_simp; done))) hS ?_
        simp only [List.setIfInBounds_toArray, List.set_cons_succ, List.set_cons_zero]
        refine wpAnyH_ready (rs := [10]) (by kernel_rfl) (by simp) (AllReadyH.cons rfl (fun K' hK => ?_) AllReadyH.nil)
        refine storeD (f := oV) (l := [oi 0, ob false]) (l' := [oi S.pos, ob S.ref]) (t := 28) (C := #[.int .i64 S.pos, .bool S.ref]) aggNS (.tmp 12) (.tmp 37) rfl rfl rfl X4.drew.heap.size rfl rfl rfl hz rfl oV_one ?_
        intro Y hsY hGY
        have hbl := hlo
        have hSY := hS.grown hGY hS.size (fun k e => by cases e; exact hbl)
        replace hO := hO.grown' hGY (fun g hg e => by injection e with e; exact hOz g hg e)
        refine hK.out _ _ hSY fun _ => ?_
        clear hK hS
        have hS := hSY
        refine takeD (i := 11) (d := 13) (v := .slice po S.out.length ko) rfl rfl (by kernel_rfl) (by kernel_rfl) (by kernel_rfl) (fun c a w h => h) (yieldsIf_op rfl (fun w => by first | rfl | kernel_rfl | (go_simp; done))) hS ?_
        simp only [List.setIfInBounds_toArray, List.set_cons_succ, List.set_cons_zero]
        refine wpAnyH_done (by kernel_rfl) ?_ _
        go_wp2
        go_meet
        exact ⟨_, po, ko, rfl, rfl, hsY, hO.rd, hSY⟩
  obtain ⟨n12, pon12, kon12, rfl, rfl, hrow, hout, hb⟩ := hcut
  obtain ⟨X5, hz0⟩ : ∃ Z, Z = wc := ⟨_, rfl⟩
  subst hz0
  have H12 := Lib.hid hrow
  have hln12 : n12 < X5.heap.size := hrow.lt
  have O13 := Lib.hid hout
  replace HN := Lib.hid (HN.out.below hb)
  replace HR8 := Lib.hid (HR8.out.below hb hl8)
  replace hl8 : n8 < X5.heap.size := Nat.lt_of_lt_of_le hl8 hb.size
  replace HB := Lib.hid (HB.out.below hb)
  replace hB := hB.trans (hb.mono hB.size)
  replace RM := Lib.hid (RM.out.below hb)
  clear hb hrow hout HPT hsl hpl
  clear HS
  generalize S.out = so at *
  clear HN HR8
  go_upto_region 6 with (fail)
  go_wp2_with fail
  refine (rPassing X5).mono ?_
  rintro e X6 ⟨qc, qr, qe, jc, rfl, hP, hb⟩
  replace HB := Lib.hid (HB.out.below hb)
  replace RM := Lib.hid (RM.out.below hb)
  replace O13 := Lib.hid (O13.out.below hb)
  replace hB := hB.trans (hb.mono hB.size)
  clear hb
  go_wp2_with fail
  refine (nRun X6 passN qc qr qe p2 jc 1 1 c2 b hP HB.out hbn pass_cov).mono ?_
  rintro e X7 ⟨hb, ⟨hno, rfl⟩ | ⟨_, s, hs, ps, ks, rfl, hO⟩⟩
  · rw [pass_acc] at hno; cases hno
  have hsb : s = b := by rw [hs.out, pass_run]; rfl
  subst hsb
  replace HB := Lib.hid (HB.out.below hb)
  replace RM := Lib.hid (RM.out.below hb)
  replace O13 := Lib.hid (O13.out.below hb)
  replace hB := hB.trans (hb.mono hB.size)
  have cvS : (convert 29 9 (.slice ps s.length ks)).run Tryz.prog X7 = .ok (.string ⟨s.toArray⟩) X7 := run_convert_rd Tryz.underlying29 Tryz.underlying5 Tryz.underlying9 hO.rd
  have cvB : (convert 29 9 (.slice p2 s.length c2)).run Tryz.prog X7 = .ok (.string ⟨s.toArray⟩) X7 := run_convert_rd Tryz.underlying29 Tryz.underlying5 Tryz.underlying9 HB.out
  have hq1 : ¬ (i : Int) < (so.length : Int) := by have := hSl.out; omega
  clear hb hs hO hP
  go_upto_region 9 with (fail)
  clear cvS cvB hq1
  cases ac with
  | false =>
    have hm : m = [] := by rw [HM.out.2]; rfl
    subst hm
    go_wp2
    go_ret
    exact ⟨rfl, hB⟩
  | true =>
    have hm : m = (N.run ⟨0, false, []⟩ s).out := by rw [HM.out.2]; rfl
    rw [← hm] at HP HO
    have hle1 : (m.length : Int) ≤ (s.length : Int) := by have := HO.out; omega
    have hpl := HP.out.length_le
    have hle2 : (so.length : Int) ≤ (m.length : Int) := by omega
    have htk : m.take so.length = so := (List.prefix_iff_eq_take.1 HP.out).symm
    obtain ⟨q, hsl, hpt⟩ := cut_h Tryz.underlying29 size8 RM.out so.length hpl
    rw [htk] at hsl hpt
    have CV : Hid (∀ X, Below X7.heap.size X7 X → (convert 29 9 (.slice q so.length km)).run Tryz.prog X = .ok (.string ⟨so.toArray⟩) X ∧ (convert 29 9 (.slice pon12 so.length kon12)).run Tryz.prog X = .ok (.string ⟨so.toArray⟩) X) := Lib.hid fun X hX => ⟨run_convert_rd Tryz.underlying29 Tryz.underlying5 Tryz.underlying9 (hpt.below hX), run_convert_rd Tryz.underlying29 Tryz.underlying5 Tryz.underlying9 (O13.out.below hX)⟩
    clear hm HM HP HO hpl htk hpt
    go_upto_region 11 with (fail)
    refine wp_region_held_drew (S := fun XX => Below X7.heap.size X7 XX) rfl (Below.refl _ _).drew fun hS => ?_
    refine takeD (i := 0) (d := 68) (v := .bool true) rfl rfl (by kernel_rfl) (by kernel_rfl) (by kernel_rfl) (fun c a w h => h) (yieldsIf_op rfl (fun w => by first | rfl | kernel_rfl | (go_simp; done))) hS ?_
    simp only [List.setIfInBounds_toArray, List.set_cons_succ, List.set_cons_zero]
    refine takeD (i := 1) (d := 69) (v := .bool true) rfl rfl (by kernel_rfl) (by kernel_rfl) (by kernel_rfl) (fun c a w h => h) (yieldsIf_op rfl (fun w => by first | rfl | kernel_rfl | (go_simp; done))) hS ?_
    simp only [List.setIfInBounds_toArray, List.set_cons_succ, List.set_cons_zero]
    refine takeD (i := 2) (d := 70) (v := .slice pm m.length km) rfl rfl (by kernel_rfl) (by kernel_rfl) (by kernel_rfl) (fun c a w h => h) (yieldsIf_op rfl (fun w => by first | rfl | kernel_rfl | (go_simp; done))) hS ?_
    simp only [List.setIfInBounds_toArray, List.set_cons_succ, List.set_cons_zero]
    refine takeD (i := 3) (d := 71) (v := .int .i64 (m.length : Nat)) rfl rfl (by kernel_rfl) (by kernel_rfl) (by kernel_rfl) (fun c a w h => h) (yieldsIf_op rfl (fun w => by first | rfl | kernel_rfl | (go_simp; done))) hS ?_
    simp only [List.setIfInBounds_toArray, List.set_cons_succ, List.set_cons_zero]
    refine takeD (i := 4) (d := 72) (v := .slice p2 s.length c2) rfl rfl (by kernel_rfl) (by kernel_rfl) (by kernel_rfl) (fun c a w h => h) (yieldsIf_op rfl (fun w => by first | rfl | kernel_rfl | (go_simp; done))) hS ?_
    simp only [List.setIfInBounds_toArray, List.set_cons_succ, List.set_cons_zero]
    refine takeD (i := 5) (d := 73) (v := .int .i64 (s.length : Nat)) rfl rfl (by kernel_rfl) (by kernel_rfl) (by kernel_rfl) (fun c a w h => h) (yieldsIf_op rfl (fun w => by first | rfl | kernel_rfl | (go_simp; done))) hS ?_
    simp only [List.setIfInBounds_toArray, List.set_cons_succ, List.set_cons_zero]
    refine takeD (i := 6) (d := 74) (v := .bool true) rfl rfl (by kernel_rfl) (by kernel_rfl) (by kernel_rfl) (fun c a w h => h) (yieldsIf_op rfl (fun w => by go_simp)) hS ?_
    simp only [List.setIfInBounds_toArray, List.set_cons_succ, List.set_cons_zero]
    refine takeD (i := 7) (d := 75) (v := .bool true) rfl rfl (by kernel_rfl) (by kernel_rfl) (by kernel_rfl) (fun c a w h => h) (yieldsIf_op rfl (fun w => by first | rfl | kernel_rfl | (go_simp; done))) hS ?_
    simp only [List.setIfInBounds_toArray, List.set_cons_succ, List.set_cons_zero]
    refine takeD (i := 8) (d := 76) (v := .bool true) rfl rfl (by kernel_rfl) (by kernel_rfl) (by kernel_rfl) (fun c a w h => h) (yieldsIf_op rfl (fun w => by first | rfl | kernel_rfl | (go_simp; done))) hS ?_
    simp only [List.setIfInBounds_toArray, List.set_cons_succ, List.set_cons_zero]
    refine takeD (i := 9) (d := 77) (v := .slice pon12 so.length kon12) rfl rfl (by kernel_rfl) (by kernel_rfl) (by kernel_rfl) (fun c a w h => h) (yieldsIf_op rfl (fun w => by first | rfl | kernel_rfl | (go_simp; done))) hS ?_
    simp only [List.setIfInBounds_toArray, List.set_cons_succ, List.set_cons_zero]
    refine takeD (i := 10) (d := 78) (v := .int .i64 (so.length : Nat)) rfl rfl (by kernel_rfl) (by kernel_rfl) (by kernel_rfl) (fun c a w h => h) (yieldsIf_op rfl (fun w => by first | rfl | kernel_rfl | (go_simp; done))) hS ?_
    simp only [List.setIfInBounds_toArray, List.set_cons_succ, List.set_cons_zero]
    refine takeD (i := 11) (d := 79) (v := .slice pm m.length km) rfl rfl (by kernel_rfl) (by kernel_rfl) (by kernel_rfl) (fun c a w h => h) (yieldsIf_op rfl (fun w => by first | rfl | kernel_rfl | (go_simp; done))) hS ?_
    simp only [List.setIfInBounds_toArray, List.set_cons_succ, List.set_cons_zero]
    refine takeD (i := 12) (d := 80) (v := .int .i64 (m.length : Nat)) rfl rfl (by kernel_rfl) (by kernel_rfl) (by kernel_rfl) (fun c a w h => h) (yieldsIf_op rfl (fun w => by first | rfl | kernel_rfl | (go_simp; done))) hS ?_
    simp only [List.setIfInBounds_toArray, List.set_cons_succ, List.set_cons_zero]
    refine takeD (i := 13) (d := 81) (v := .bool true) rfl rfl (by kernel_rfl) (by kernel_rfl) (by kernel_rfl) (fun c a w h => h) (yieldsIf_op rfl (fun w => by go_simp)) hS ?_
    simp only [List.setIfInBounds_toArray, List.set_cons_succ, List.set_cons_zero]
    refine takeD (i := 14) (d := 82) (v := .bool true) rfl rfl (by kernel_rfl) (by kernel_rfl) (by kernel_rfl) (fun c a w h => h) (yieldsIf_op rfl (fun w => by first | rfl | kernel_rfl | (go_simp; done))) hS ?_
    simp only [List.setIfInBounds_toArray, List.set_cons_succ, List.set_cons_zero]
    refine takeD (i := 15) (d := 83) (v := .bool true) rfl rfl (by kernel_rfl) (by kernel_rfl) (by kernel_rfl) (fun c a w h => h) (yieldsIf_op rfl (fun w => by first | rfl | kernel_rfl | (go_simp; done))) hS ?_
    simp only [List.setIfInBounds_toArray, List.set_cons_succ, List.set_cons_zero]
    refine takeD (i := 16) (d := 84) (v := .slice pm m.length km) rfl rfl (by kernel_rfl) (by kernel_rfl) (by kernel_rfl) (fun c a w h => h) (yieldsIf_op rfl (fun w => by first | rfl | kernel_rfl | (go_simp; done))) hS ?_
    simp only [List.setIfInBounds_toArray, List.set_cons_succ, List.set_cons_zero]
    refine takeD (i := 17) (d := 85) (v := .slice pon12 so.length kon12) rfl rfl (by kernel_rfl) (by kernel_rfl) (by kernel_rfl) (fun c a w h => h) (yieldsIf_op rfl (fun w => by first | rfl | kernel_rfl | (go_simp; done))) hS ?_
    simp only [List.setIfInBounds_toArray, List.set_cons_succ, List.set_cons_zero]
    refine takeD (i := 18) (d := 86) (v := .int .i64 (so.length : Nat)) rfl rfl (by kernel_rfl) (by kernel_rfl) (by kernel_rfl) (fun c a w h => h) (yieldsIf_op rfl (fun w => by first | rfl | kernel_rfl | (go_simp; done))) hS ?_
    simp only [List.setIfInBounds_toArray, List.set_cons_succ, List.set_cons_zero]
    refine takeD (i := 19) (d := 87) (v := .slice q so.length km) rfl rfl (by kernel_rfl) (by kernel_rfl) (by kernel_rfl) (fun c a w h => h) (.inl ⟨by first | rfl | kernel_rfl, fun W' h => by have q0 := hsl W'; go_simp⟩) hS ?_
    simp only [List.setIfInBounds_toArray, List.set_cons_succ, List.set_cons_zero]
    refine takeD (i := 20) (d := 88) (v := .string ⟨so.toArray⟩) rfl rfl (by kernel_rfl) (by kernel_rfl) (by kernel_rfl) (fun c a w h => h) (.inl ⟨by first | rfl | kernel_rfl, fun W' h => by have q0 := (CV.out W' h).1; go_simp⟩) hS ?_
    simp only [List.setIfInBounds_toArray, List.set_cons_succ, List.set_cons_zero]
    refine takeD (i := 21) (d := 89) (v := .slice pon12 so.length kon12) rfl rfl (by kernel_rfl) (by kernel_rfl) (by kernel_rfl) (fun c a w h => h) (yieldsIf_op rfl (fun w => by first | rfl | kernel_rfl | (go_simp; done))) hS ?_
    simp only [List.setIfInBounds_toArray, List.set_cons_succ, List.set_cons_zero]
    refine takeD (i := 22) (d := 90) (v := .string ⟨so.toArray⟩) rfl rfl (by kernel_rfl) (by kernel_rfl) (by kernel_rfl) (fun c a w h => h) (.inl ⟨by first | rfl | kernel_rfl, fun W' h => by have q0 := (CV.out W' h).2; go_simp⟩) hS ?_
    simp only [List.setIfInBounds_toArray, List.set_cons_succ, List.set_cons_zero]
    refine takeD (i := 23) (d := 91) (v := .bool true) rfl rfl (by kernel_rfl) (by kernel_rfl) (by kernel_rfl) (fun c a w h => h) (yieldsIf_op rfl (fun w => by go_simp)) hS ?_
    simp only [List.setIfInBounds_toArray, List.set_cons_succ, List.set_cons_zero]
    refine takeD (i := 24) (d := 92) (v := .bool true) rfl rfl (by kernel_rfl) (by kernel_rfl) (by kernel_rfl) (fun c a w h => h) (yieldsIf_op rfl (fun w => by first | rfl | kernel_rfl | (go_simp; done))) hS ?_
    simp only [List.setIfInBounds_toArray, List.set_cons_succ, List.set_cons_zero]
    refine takeD (i := 25) (d := 6) (v := .bool true) rfl rfl (by kernel_rfl) (by kernel_rfl) (by kernel_rfl) (fun c a w h => h) (yieldsIf_op rfl (fun w => by first | rfl | kernel_rfl | (go_simp; done))) hS ?_
    simp only [List.setIfInBounds_toArray, List.set_cons_succ, List.set_cons_zero]
    refine wpAnyH_done (by kernel_rfl) ?_ _
    go_wp2
    go_ret
    exact ⟨rfl, hB.trans (hS.mono hB.size)⟩
end Go.Proofs.YtgflelodpcgmbaaGreatDoor
