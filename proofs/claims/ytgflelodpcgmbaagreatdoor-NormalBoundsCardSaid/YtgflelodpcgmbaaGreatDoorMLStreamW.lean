/- The walk of univocallaw25.NormalStreams: it returns true. -/
import Derived.Test.YtgflelodpcgmbaaGreatDoorMSanity
import Derived.Test.YtgflelodpcgmbaaGreatDoorMRMade
import Derived.Test.YtgflelodpcgmbaaGreatDoorMSliceP
namespace Go.Proofs.YtgflelodpcgmbaaGreatDoor
open Go Go.RowKit Mem
set_option maxRecDepth 100000

theorem ba_cat (a b c : List UInt8) : ((⟨a.toArray⟩ ++ ⟨b.toArray⟩ ++ ⟨c.toArray⟩ : ByteArray).toList == (a ++ (b ++ c))) = true := by
  have h : (⟨a.toArray⟩ ++ ⟨b.toArray⟩ ++ ⟨c.toArray⟩ : ByteArray).toList = a ++ (b ++ c) := by
    rw [Go.ByteArray.toList_eq]
    simp
  rw [h]; simp
theorem three_parts (b : List UInt8) (i j : Nat) (hij : i ≤ j) (_hj : j ≤ b.length) : b.take i ++ ((b.drop i).take (j - i) ++ b.drop j) = b := by
  have h : (b.drop i).take (j - i) ++ b.drop j = b.drop i := by
    have : b.drop j = (b.drop i).drop (j - i) := by rw [List.drop_drop]; congr 1; omega
    rw [this, List.take_append_drop]
  rw [h, List.take_append_drop]

set_option maxHeartbeats 32000000 in
theorem streamsW (w : World) (p1 p2 : Option Addr) (c1 c2 : Nat) (l b : List UInt8) (k0 k1 : UInt8) (hl : Rd u8V w (.slice p1 l.length c1) l) (hb0 : Rd u8V w (.slice p2 b.length c2) b) (hbn : b.length ≤ 140737488351232) :
    Calls Tryz.prog 4 #[.slice p1 l.length c1, .slice p2 b.length c2, .agg #[.int .u8 (k0.toNat : Int), .int .u8 (k1.toNat : Int)]] w fun e w' => e = .returned (.bool true) ∧ Below w.heap.size w w' := by
  have HL := Lib.hid hl
  have HB := Lib.hid hb0
  clear hl hb0
  go_enter Tryz.func4, Tryz.ntmps4
  go_upto_region 1 with (fail)
  obtain ⟨W, hW, hB, hs, r5⟩ : ∃ W, (w.alloc (.cells #[.int .u8 (k0.toNat : Int), .int .u8 (k1.toNat : Int)] 38)) = W ∧ Below w.heap.size w W ∧ w.heap.size + 1 ≤ W.heap.size ∧ Row u8V W w.heap.size 38 [k0, k1] :=
    ⟨_, rfl, below_al (Below.refl _ _) (Nat.le_refl _) _, by simp, Row.new _ _ rfl⟩
  rw [hW]
  clear hW
  go_wp2_with fail
  refine (sanity1 W).mono ?_
  rintro e W1 ⟨rfl, hb1⟩
  replace r5 := r5.below hb1 r5.lt
  replace hB := hB.trans (hb1.mono hB.size)
  clear hb1 hs
  go_wp2_with fail
  refine (rMade W1 p1 c1 l (HL.out.below hB)).mono ?_
  rintro e W2 ⟨pc, pr, pe, kc, kr, ke, rfl, hN, hb1⟩
  replace r5 := r5.below hb1 r5.lt
  replace hB := hB.trans (hb1.mono hB.size)
  have hval := made_valid l
  have hcov := made_cov l
  clear hb1 HL
  generalize made l = N at *
  have hZ : Row oV (W2.alloc (.cells #[.slice none 0 0, .slice none 0 0, .slice none 0 0] 26)) W2.heap.size 26 [on, on, on] := Row.new _ _ rfl
  go_upto_region 3 with (((with_reducible refine store_agg (f := oV) (l := [on, on, on]) (l' := [slO pc N.cls.length kc, slO pr N.rows.length kr, slO pe N.ends.length ke]) (t := 26) (C := #[.slice pc N.cls.length kc, .slice pr N.rows.length kr, .slice pe N.ends.length ke]) aggNorm (.tmp 8) (.tmp 21) ?_ ?_ W2.heap.size ?_ ?_ ?_ hZ ?_ oV_one ?_); rfl; rfl; rfl; rfl; rfl; rfl; (intro X hs hG hz)))
  have hBX := below_row (Below.refl W2.heap.size W2) hG
  have HN := Lib.hid (hN.below hBX)
  replace r5 := r5.below hBX r5.lt
  replace hB := hB.trans (hBX.mono hB.size)
  have HR8 := Lib.hid hs
  have hl8 : W2.heap.size < X.heap.size := hs.lt
  replace HB := Lib.hid (HB.out.below hB)
  clear hBX hs hG hz hZ hN
  generalize W2.heap.size = n8 at *
  have d0 : X.cell? ⟨w.heap.size, 0, none⟩ = some (.int .u8 (k0.toNat : Int)) := by rw [r5.cell?]; rfl
  have d1 : X.cell? ⟨w.heap.size, 1, none⟩ = some (.int .u8 (k1.toNat : Int)) := by rw [r5.cell?]; rfl
  obtain ⟨i, hib, hmi⟩ : ∃ i : Nat, i ≤ b.length ∧ min (k0.toNat : Int) (b.length : Int) = (i : Int) := ⟨min k0.toNat b.length, Nat.min_le_right _ _, by omega⟩
  obtain ⟨j, hij, hjb, hmj⟩ : ∃ j : Nat, i ≤ j ∧ j ≤ b.length ∧ min ((i : Int) + (k1.toNat : Int)) (b.length : Int) = (j : Int) := ⟨min (i + k1.toNat) b.length, by omega, Nat.min_le_right _ _, by omega⟩
  have hk0 := k0.toNat_lt
  have hk1 := k1.toNat_lt
  generalize k0.toNat = x0 at *
  generalize k1.toNat = x1 at *
  rw [put_none]
  go_upto_region 5 with (fail)
  clear r5 d0 d1 hmi hmj hk0 hk1
  obtain ⟨S, HS⟩ : ∃ s, Hid (s = N.run ⟨0, false, []⟩ (b.take i)) := ⟨_, Lib.hid rfl⟩
  obtain ⟨T, HT⟩ : ∃ s, Hid (s = N.run ⟨at0 S.ref S.pos, S.ref, []⟩ ((b.drop i).take (j - i))) := ⟨_, Lib.hid rfl⟩
  obtain ⟨U, HUU⟩ : ∃ s, Hid (s = N.run ⟨at0 T.ref T.pos, T.ref, []⟩ (b.drop j)) := ⟨_, Lib.hid rfl⟩
  obtain ⟨ok0, ok1, ok2, hacc, houts⟩ := NZ.three hval hcov _ _ _ S T U HS.out HT.out HUU.out
  rw [three_parts b i j hij hjb] at hacc houts
  replace ok0 := Lib.hid ok0
  replace ok1 := Lib.hid ok1
  replace ok2 := Lib.hid ok2
  replace hacc := Lib.hid hacc
  replace houts := Lib.hid houts
  obtain ⟨q, hsl, hpt⟩ := cut_h Tryz.underlying29 size8 HB.out i hib
  have hpl : (b.take i).length ≤ 140737488351232 := by rw [List.length_take]; omega
  have HPT := Lib.hid hpt
  clear hpt
  go_cut [11, 12] (fun sa sb wx => ∃ nb po ko, sa = .pointer (some ⟨nb, 0, none⟩) ∧ sb = .slice po S.out.length ko ∧ Row oV wx nb 28 [oi S.pos, ob S.ref] ∧ Rd u8V wx (.slice po S.out.length ko) S.out ∧ Below X.heap.size X wx)
  · refine wp_region_held_drew (S := fun XX => Below X.heap.size X XX) rfl (Below.refl _ _).drew fun hS => ?_
    refine takeD (i := 0) (d := 37) (v := .agg #[.slice pc N.cls.length kc, .slice pr N.rows.length kr, .slice pe N.ends.length ke]) rfl rfl (by kernel_rfl) (by kernel_rfl) (by kernel_rfl) (fun c a w h => h) (yieldsIf_load (f := oV) (l := [slO pc N.cls.length kc, slO pr N.rows.length kr, slO pe N.ends.length ke]) aggNorm (.tmp 8) rfl n8 0 rfl (fun W' h => (HR8.out.below h hl8).at) rfl rfl) hS ?_
    simp only [List.setIfInBounds_toArray, List.set_cons_succ, List.set_cons_zero]
    refine takeD (i := 1) (d := 38) (v := .agg #[.int .i64 0, .bool false]) rfl rfl (by kernel_rfl) (by kernel_rfl) (by kernel_rfl) (fun c a w h => h) (yieldsIf_op rfl (fun w => by first | rfl | kernel_rfl | (go_simp; done))) hS ?_
    simp only [List.setIfInBounds_toArray, List.set_cons_succ, List.set_cons_zero]
    refine takeD (i := 2) (d := 39) (v := .slice p2 b.length c2) rfl rfl (by kernel_rfl) (by kernel_rfl) (by kernel_rfl) (fun c a w h => h) (yieldsIf_op rfl (fun w => by first | rfl | kernel_rfl | (go_simp; done))) hS ?_
    simp only [List.setIfInBounds_toArray, List.set_cons_succ, List.set_cons_zero]
    refine takeD (i := 3) (d := 40) (v := .int .i64 i) rfl rfl (by kernel_rfl) (by kernel_rfl) (by kernel_rfl) (fun c a w h => h) (yieldsIf_op rfl (fun w => by first | rfl | kernel_rfl | (go_simp; done))) hS ?_
    simp only [List.setIfInBounds_toArray, List.set_cons_succ, List.set_cons_zero]
    refine takeD (i := 4) (d := 41) (v := .slice q (b.take i).length c2) rfl rfl (by kernel_rfl) (by kernel_rfl) (by kernel_rfl) (fun c a w h => h) (.inl ⟨by first | rfl | kernel_rfl, fun W' h => by have q0 := hsl W'; go_simp⟩) hS ?_
    simp only [List.setIfInBounds_toArray, List.set_cons_succ, List.set_cons_zero]
    refine wpAnyH_ready (rs := [5, 9]) (by kernel_rfl) (by simp) (AllReadyH.cons rfl (fun K' hK => ?_) (AllReadyH.cons rfl (fun K' hK => ?_) AllReadyH.nil))
    · refine callD (d := 42) (g := 11) (args := #[.agg #[.slice pc N.cls.length kc, .slice pr N.rows.length kr, .slice pe N.ends.length ke], .agg #[.int .i64 0, .bool false], .slice q (b.take i).length c2]) rfl rfl (by first | kernel_rfl | (simp [execOp, resolve, invoke, Act.eval]) | go_simp) ?_
      refine (nFeed X.drew N pc pr pe q kc kr ke c2 0 false (b.take i) (HN.out.below hS) (HPT.out.below hS) hpl hcov).mono ?_
      rintro e A1 ⟨hBx, ⟨hno, rfl⟩ | ⟨_, s, hsr, po, ko, rfl, hO⟩⟩
      · rw [ok0.out] at hno; cases hno
      have hse : S = s := HS.out.trans hsr.out.symm
      subst hse
      clear hsr
      replace hS := hS.trans (hBx.mono hS.size)
      refine ⟨_, rfl, hK.out _ _ hS fun _ => ?_⟩
      clear hK
      simp only [List.setIfInBounds_toArray, List.set_cons_succ, List.set_cons_zero]
      refine takeD (i := 6) (d := 36) (v := .tuple #[.agg #[.int .i64 S.pos, .bool S.ref], .slice po S.out.length ko]) rfl rfl (by kernel_rfl) (by kernel_rfl) (by kernel_rfl) (fun c a w h => h) (yieldsIf_op rfl (fun w => by first | rfl | kernel_rfl | (go_simp; done))) hS ?_
      simp only [List.setIfInBounds_toArray, List.set_cons_succ, List.set_cons_zero]
      refine takeD (i := 7) (d := 43) (v := .agg #[.int .i64 S.pos, .bool S.ref]) rfl rfl (by kernel_rfl) (by kernel_rfl) (by kernel_rfl) (fun c a w h => h) (yieldsIf_op rfl (fun w => by first | rfl | kernel_rfl | (go_simp; done))) hS ?_
      simp only [List.setIfInBounds_toArray, List.set_cons_succ, List.set_cons_zero]
      refine takeD (i := 8) (d := 44) (v := .slice po S.out.length ko) rfl rfl (by kernel_rfl) (by kernel_rfl) (by kernel_rfl) (fun c a w h => h) (yieldsIf_op rfl (fun w => by first | rfl | kernel_rfl | (go_simp; done))) hS ?_
      simp only [List.setIfInBounds_toArray, List.set_cons_succ, List.set_cons_zero]
      refine wpAnyH_ready (rs := [9]) (by kernel_rfl) (by simp) (AllReadyH.cons rfl (fun K' hK => ?_) AllReadyH.nil)
      · have hz : Row oV (A1.alloc (.cells #[.int .i64 0, .bool false] 28)) A1.heap.size 28 [oi 0, ob false] := Row.new _ _ rfl
        have hBx := below_al (Below.refl A1.heap.size A1) (Nat.le_refl _) (.cells #[.int .i64 0, .bool false] 28)
        refine allocD (d := 11) (ob := (.cells #[.int .i64 0, .bool false] 28)) rfl rfl (by first | rfl | kernel_rfl) ?_
        generalize (A1.alloc (.cells #[.int .i64 0, .bool false] 28)) = A2 at *
        have hlo : X.heap.size ≤ A1.heap.size := hS.size
        have hOz : ∀ g, (Value.slice po S.out.length ko).ownBlock = some g → g ≠ A1.heap.size := fun g hg e => by have h1 := (hO.lt g hg).2; omega
        replace hO := hO.below' hBx
        replace hS := hS.trans (hBx.mono hS.size)
        refine hK.out _ _ hS fun _ => ?_
        clear hK
        simp only [List.setIfInBounds_toArray, List.set_cons_succ, List.set_cons_zero]
        refine wpAnyH_ready (rs := [10]) (by kernel_rfl) (by simp) (AllReadyH.cons rfl (fun K' hK => ?_) AllReadyH.nil)
        refine storeD (f := oV) (l := [oi 0, ob false]) (l' := [oi S.pos, ob S.ref]) (t := 28) (C := #[.int .i64 S.pos, .bool S.ref]) aggNS (.tmp 11) (.tmp 43) rfl rfl rfl A1.heap.size rfl rfl rfl hz rfl oV_one ?_
        intro Y hsY hGY
        have hbl := hlo
        have hSY := hS.grown hGY hS.size (fun k e => by cases e; exact hbl)
        replace hO := hO.grown' hGY (fun g hg e => by injection e with e; exact hOz g hg e)
        refine hK.out _ _ hSY fun _ => ?_
        clear hK hS
        have hS := hSY
        refine takeD (i := 11) (d := 12) (v := .slice po S.out.length ko) rfl rfl (by kernel_rfl) (by kernel_rfl) (by kernel_rfl) (fun c a w h => h) (yieldsIf_op rfl (fun w => by first | rfl | kernel_rfl | (go_simp; done))) hS ?_
        simp only [List.setIfInBounds_toArray, List.set_cons_succ, List.set_cons_zero]
        refine wpAnyH_done (by kernel_rfl) ?_ _
        go_wp2
        go_meet
        exact ⟨_, po, ko, rfl, rfl, hsY, hO.rd, hSY⟩
    · have hz : Row oV (X.drew.alloc (.cells #[.int .i64 0, .bool false] 28)) X.drew.heap.size 28 [oi 0, ob false] := Row.new _ _ rfl
      have hBx := below_al (Below.refl X.drew.heap.size X.drew) (Nat.le_refl _) (.cells #[.int .i64 0, .bool false] 28)
      refine allocD (d := 11) (ob := (.cells #[.int .i64 0, .bool false] 28)) rfl rfl (by first | rfl | kernel_rfl) ?_
      generalize (X.drew.alloc (.cells #[.int .i64 0, .bool false] 28)) = A3 at *
      have hlo : X.heap.size ≤ X.drew.heap.size := hS.size
      replace hS := hS.trans (hBx.mono hS.size)
      refine hK.out _ _ hS fun _ => ?_
      clear hK
      simp only [List.setIfInBounds_toArray, List.set_cons_succ, List.set_cons_zero]
      refine wpAnyH_ready (rs := [5]) (by kernel_rfl) (by simp) (AllReadyH.cons rfl (fun K' hK => ?_) AllReadyH.nil)
      · refine callD (d := 42) (g := 11) (args := #[.agg #[.slice pc N.cls.length kc, .slice pr N.rows.length kr, .slice pe N.ends.length ke], .agg #[.int .i64 0, .bool false], .slice q (b.take i).length c2]) rfl rfl (by first | kernel_rfl | (simp [execOp, resolve, invoke, Act.eval]) | go_simp) ?_
        refine (nFeed A3 N pc pr pe q kc kr ke c2 0 false (b.take i) (HN.out.below hS) (HPT.out.below hS) hpl hcov).mono ?_
        rintro e A4 ⟨hBx, ⟨hno, rfl⟩ | ⟨_, s, hsr, po, ko, rfl, hO⟩⟩
        · rw [ok0.out] at hno; cases hno
        have hse : S = s := HS.out.trans hsr.out.symm
        subst hse
        clear hsr
        have hOz : ∀ g, (Value.slice po S.out.length ko).ownBlock = some g → g ≠ X.drew.heap.size := fun g hg e => by have h1 := (hO.lt g hg).1; have h2 := hz.lt; omega
        replace hz := hz.below hBx hz.lt
        replace hS := hS.trans (hBx.mono hS.size)
        refine ⟨_, rfl, hK.out _ _ hS fun _ => ?_⟩
        clear hK
        simp only [List.setIfInBounds_toArray, List.set_cons_succ, List.set_cons_zero]
        refine takeD (i := 6) (d := 36) (v := .tuple #[.agg #[.int .i64 S.pos, .bool S.ref], .slice po S.out.length ko]) rfl rfl (by kernel_rfl) (by kernel_rfl) (by kernel_rfl) (fun c a w h => h) (yieldsIf_op rfl (fun w => by first | rfl | kernel_rfl | (go_simp; done))) hS ?_
        simp only [List.setIfInBounds_toArray, List.set_cons_succ, List.set_cons_zero]
        refine takeD (i := 7) (d := 43) (v := .agg #[.int .i64 S.pos, .bool S.ref]) rfl rfl (by kernel_rfl) (by kernel_rfl) (by kernel_rfl) (fun c a w h => h) (yieldsIf_op rfl (fun w => by first | rfl | kernel_rfl | (go_simp; done))) hS ?_
        simp only [List.setIfInBounds_toArray, List.set_cons_succ, List.set_cons_zero]
        refine takeD (i := 8) (d := 44) (v := .slice po S.out.length ko) rfl rfl (by kernel_rfl) (by kernel_rfl) (by kernel_rfl) (fun c a w h => h) (yieldsIf_op rfl (fun w => by first | rfl | kernel_rfl | (go_simp; done))) hS ?_
        simp only [List.setIfInBounds_toArray, List.set_cons_succ, List.set_cons_zero]
        refine wpAnyH_ready (rs := [10]) (by kernel_rfl) (by simp) (AllReadyH.cons rfl (fun K' hK => ?_) AllReadyH.nil)
        refine storeD (f := oV) (l := [oi 0, ob false]) (l' := [oi S.pos, ob S.ref]) (t := 28) (C := #[.int .i64 S.pos, .bool S.ref]) aggNS (.tmp 11) (.tmp 43) rfl rfl rfl X.drew.heap.size rfl rfl rfl hz rfl oV_one ?_
        intro Y hsY hGY
        have hbl := hlo
        have hSY := hS.grown hGY hS.size (fun k e => by cases e; exact hbl)
        replace hO := hO.grown' hGY (fun g hg e => by injection e with e; exact hOz g hg e)
        refine hK.out _ _ hSY fun _ => ?_
        clear hK hS
        have hS := hSY
        refine takeD (i := 11) (d := 12) (v := .slice po S.out.length ko) rfl rfl (by kernel_rfl) (by kernel_rfl) (by kernel_rfl) (fun c a w h => h) (yieldsIf_op rfl (fun w => by first | rfl | kernel_rfl | (go_simp; done))) hS ?_
        simp only [List.setIfInBounds_toArray, List.set_cons_succ, List.set_cons_zero]
        refine wpAnyH_done (by kernel_rfl) ?_ _
        go_wp2
        go_meet
        exact ⟨_, po, ko, rfl, rfl, hsY, hO.rd, hSY⟩
  obtain ⟨n11, pon11, kon11, rfl, rfl, hrow, hout, hb⟩ := hcut
  obtain ⟨X5, hz0⟩ : ∃ Z, Z = wc := ⟨_, rfl⟩
  subst hz0
  have H11 := Lib.hid hrow
  have hln11 : n11 < X5.heap.size := hrow.lt
  have O12 := Lib.hid hout
  replace HN := Lib.hid (HN.out.below hb)
  replace HR8 := Lib.hid (HR8.out.below hb hl8)
  replace hl8 : n8 < X5.heap.size := Nat.lt_of_lt_of_le hl8 hb.size
  replace HB := Lib.hid (HB.out.below hb)
  replace hB := hB.trans (hb.mono hB.size)
  clear hb hrow hout HPT hsl hpl
  go_upto_region 6 with (fail)
  obtain ⟨q, hsl, hpt⟩ := cut_lh Tryz.underlying29 size8 HB.out i j hij hjb
  have hpl : ((b.drop i).take (j - i)).length ≤ 140737488351232 := by rw [len_cut i j hjb]; omega
  have HPT := Lib.hid hpt
  clear hpt
  go_cut [13, 14] (fun sa sb wx => ∃ nb po ko, sa = .pointer (some ⟨nb, 0, none⟩) ∧ sb = .slice po T.out.length ko ∧ Row oV wx nb 28 [oi T.pos, ob T.ref] ∧ Rd u8V wx (.slice po T.out.length ko) T.out ∧ Below X5.heap.size X5 wx)
  · refine wp_region_held_drew (S := fun XX => Below X5.heap.size X5 XX) rfl (Below.refl _ _).drew fun hS => ?_
    refine takeD (i := 0) (d := 46) (v := .agg #[.slice pc N.cls.length kc, .slice pr N.rows.length kr, .slice pe N.ends.length ke]) rfl rfl (by kernel_rfl) (by kernel_rfl) (by kernel_rfl) (fun c a w h => h) (yieldsIf_load (f := oV) (l := [slO pc N.cls.length kc, slO pr N.rows.length kr, slO pe N.ends.length ke]) aggNorm (.tmp 8) rfl n8 0 rfl (fun W' h => (HR8.out.below h hl8).at) rfl rfl) hS ?_
    simp only [List.setIfInBounds_toArray, List.set_cons_succ, List.set_cons_zero]
    refine takeD (i := 1) (d := 47) (v := .agg #[.int .i64 S.pos, .bool S.ref]) rfl rfl (by kernel_rfl) (by kernel_rfl) (by kernel_rfl) (fun c a w h => h) (yieldsIf_load (f := oV) (l := [oi S.pos, ob S.ref]) aggNS (.tmp 11) rfl n11 0 rfl (fun W' h => (H11.out.below h hln11).at) rfl rfl) hS ?_
    simp only [List.setIfInBounds_toArray, List.set_cons_succ, List.set_cons_zero]
    refine takeD (i := 2) (d := 48) (v := .slice p2 b.length c2) rfl rfl (by kernel_rfl) (by kernel_rfl) (by kernel_rfl) (fun c a w h => h) (yieldsIf_op rfl (fun w => by first | rfl | kernel_rfl | (go_simp; done))) hS ?_
    simp only [List.setIfInBounds_toArray, List.set_cons_succ, List.set_cons_zero]
    refine takeD (i := 3) (d := 49) (v := .int .i64 i) rfl rfl (by kernel_rfl) (by kernel_rfl) (by kernel_rfl) (fun c a w h => h) (yieldsIf_op rfl (fun w => by first | rfl | kernel_rfl | (go_simp; done))) hS ?_
    simp only [List.setIfInBounds_toArray, List.set_cons_succ, List.set_cons_zero]
    refine takeD (i := 4) (d := 50) (v := .int .i64 j) rfl rfl (by kernel_rfl) (by kernel_rfl) (by kernel_rfl) (fun c a w h => h) (yieldsIf_op rfl (fun w => by first | rfl | kernel_rfl | (go_simp; done))) hS ?_
    simp only [List.setIfInBounds_toArray, List.set_cons_succ, List.set_cons_zero]
    refine takeD (i := 5) (d := 51) (v := .slice q ((b.drop i).take (j - i)).length (c2 - i)) rfl rfl (by kernel_rfl) (by kernel_rfl) (by kernel_rfl) (fun c a w h => h) (.inl ⟨by first | rfl | kernel_rfl, fun W' h => by have q0 := hsl W'; go_simp⟩) hS ?_
    simp only [List.setIfInBounds_toArray, List.set_cons_succ, List.set_cons_zero]
    refine wpAnyH_ready (rs := [6, 10]) (by kernel_rfl) (by simp) (AllReadyH.cons rfl (fun K' hK => ?_) (AllReadyH.cons rfl (fun K' hK => ?_) AllReadyH.nil))
    · refine callD (d := 52) (g := 11) (args := #[.agg #[.slice pc N.cls.length kc, .slice pr N.rows.length kr, .slice pe N.ends.length ke], .agg #[.int .i64 S.pos, .bool S.ref], .slice q ((b.drop i).take (j - i)).length (c2 - i)]) rfl rfl (by first | kernel_rfl | (simp [execOp, resolve, invoke, Act.eval]) | go_simp) ?_
      refine (nFeed X5.drew N pc pr pe q kc kr ke (c2 - i) S.pos S.ref ((b.drop i).take (j - i)) (HN.out.below hS) (HPT.out.below hS) hpl hcov).mono ?_
      rintro e B1 ⟨hBx, ⟨hno, rfl⟩ | ⟨_, s, hsr, po, ko, rfl, hO⟩⟩
      · rw [ok1.out] at hno; cases hno
      have hse : T = s := HT.out.trans hsr.out.symm
      subst hse
      clear hsr
      replace hS := hS.trans (hBx.mono hS.size)
      refine ⟨_, rfl, hK.out _ _ hS fun _ => ?_⟩
      clear hK
      simp only [List.setIfInBounds_toArray, List.set_cons_succ, List.set_cons_zero]
      refine takeD (i := 7) (d := 45) (v := .tuple #[.agg #[.int .i64 T.pos, .bool T.ref], .slice po T.out.length ko]) rfl rfl (by kernel_rfl) (by kernel_rfl) (by kernel_rfl) (fun c a w h => h) (yieldsIf_op rfl (fun w => by first | rfl | kernel_rfl | (go_simp; done))) hS ?_
      simp only [List.setIfInBounds_toArray, List.set_cons_succ, List.set_cons_zero]
      refine takeD (i := 8) (d := 53) (v := .agg #[.int .i64 T.pos, .bool T.ref]) rfl rfl (by kernel_rfl) (by kernel_rfl) (by kernel_rfl) (fun c a w h => h) (yieldsIf_op rfl (fun w => by first | rfl | kernel_rfl | (go_simp; done))) hS ?_
      simp only [List.setIfInBounds_toArray, List.set_cons_succ, List.set_cons_zero]
      refine takeD (i := 9) (d := 54) (v := .slice po T.out.length ko) rfl rfl (by kernel_rfl) (by kernel_rfl) (by kernel_rfl) (fun c a w h => h) (yieldsIf_op rfl (fun w => by first | rfl | kernel_rfl | (go_simp; done))) hS ?_
      simp only [List.setIfInBounds_toArray, List.set_cons_succ, List.set_cons_zero]
      refine wpAnyH_ready (rs := [10]) (by kernel_rfl) (by simp) (AllReadyH.cons rfl (fun K' hK => ?_) AllReadyH.nil)
      · have hz : Row oV (B1.alloc (.cells #[.int .i64 0, .bool false] 28)) B1.heap.size 28 [oi 0, ob false] := Row.new _ _ rfl
        have hBx := below_al (Below.refl B1.heap.size B1) (Nat.le_refl _) (.cells #[.int .i64 0, .bool false] 28)
        refine allocD (d := 13) (ob := (.cells #[.int .i64 0, .bool false] 28)) rfl rfl (by first | rfl | kernel_rfl) ?_
        generalize (B1.alloc (.cells #[.int .i64 0, .bool false] 28)) = B2 at *
        have hlo : X5.heap.size ≤ B1.heap.size := hS.size
        have hOz : ∀ g, (Value.slice po T.out.length ko).ownBlock = some g → g ≠ B1.heap.size := fun g hg e => by have h1 := (hO.lt g hg).2; omega
        replace hO := hO.below' hBx
        replace hS := hS.trans (hBx.mono hS.size)
        refine hK.out _ _ hS fun _ => ?_
        clear hK
        simp only [List.setIfInBounds_toArray, List.set_cons_succ, List.set_cons_zero]
        refine wpAnyH_ready (rs := [11]) (by kernel_rfl) (by simp) (AllReadyH.cons rfl (fun K' hK => ?_) AllReadyH.nil)
        refine storeD (f := oV) (l := [oi 0, ob false]) (l' := [oi T.pos, ob T.ref]) (t := 28) (C := #[.int .i64 T.pos, .bool T.ref]) aggNS (.tmp 13) (.tmp 53) rfl rfl rfl B1.heap.size rfl rfl rfl hz rfl oV_one ?_
        intro Y hsY hGY
        have hbl := hlo
        have hSY := hS.grown hGY hS.size (fun k e => by cases e; exact hbl)
        replace hO := hO.grown' hGY (fun g hg e => by injection e with e; exact hOz g hg e)
        refine hK.out _ _ hSY fun _ => ?_
        clear hK hS
        have hS := hSY
        refine takeD (i := 12) (d := 14) (v := .slice po T.out.length ko) rfl rfl (by kernel_rfl) (by kernel_rfl) (by kernel_rfl) (fun c a w h => h) (yieldsIf_op rfl (fun w => by first | rfl | kernel_rfl | (go_simp; done))) hS ?_
        simp only [List.setIfInBounds_toArray, List.set_cons_succ, List.set_cons_zero]
        refine wpAnyH_done (by kernel_rfl) ?_ _
        go_wp2
        go_meet
        exact ⟨_, po, ko, rfl, rfl, hsY, hO.rd, hSY⟩
    · have hz : Row oV (X5.drew.alloc (.cells #[.int .i64 0, .bool false] 28)) X5.drew.heap.size 28 [oi 0, ob false] := Row.new _ _ rfl
      have hBx := below_al (Below.refl X5.drew.heap.size X5.drew) (Nat.le_refl _) (.cells #[.int .i64 0, .bool false] 28)
      refine allocD (d := 13) (ob := (.cells #[.int .i64 0, .bool false] 28)) rfl rfl (by first | rfl | kernel_rfl) ?_
      generalize (X5.drew.alloc (.cells #[.int .i64 0, .bool false] 28)) = A3 at *
      have hlo : X5.heap.size ≤ X5.drew.heap.size := hS.size
      replace hS := hS.trans (hBx.mono hS.size)
      refine hK.out _ _ hS fun _ => ?_
      clear hK
      simp only [List.setIfInBounds_toArray, List.set_cons_succ, List.set_cons_zero]
      refine wpAnyH_ready (rs := [6]) (by kernel_rfl) (by simp) (AllReadyH.cons rfl (fun K' hK => ?_) AllReadyH.nil)
      · refine callD (d := 52) (g := 11) (args := #[.agg #[.slice pc N.cls.length kc, .slice pr N.rows.length kr, .slice pe N.ends.length ke], .agg #[.int .i64 S.pos, .bool S.ref], .slice q ((b.drop i).take (j - i)).length (c2 - i)]) rfl rfl (by first | kernel_rfl | (simp [execOp, resolve, invoke, Act.eval]) | go_simp) ?_
        refine (nFeed A3 N pc pr pe q kc kr ke (c2 - i) S.pos S.ref ((b.drop i).take (j - i)) (HN.out.below hS) (HPT.out.below hS) hpl hcov).mono ?_
        rintro e B4 ⟨hBx, ⟨hno, rfl⟩ | ⟨_, s, hsr, po, ko, rfl, hO⟩⟩
        · rw [ok1.out] at hno; cases hno
        have hse : T = s := HT.out.trans hsr.out.symm
        subst hse
        clear hsr
        have hOz : ∀ g, (Value.slice po T.out.length ko).ownBlock = some g → g ≠ X5.drew.heap.size := fun g hg e => by have h1 := (hO.lt g hg).1; have h2 := hz.lt; omega
        replace hz := hz.below hBx hz.lt
        replace hS := hS.trans (hBx.mono hS.size)
        refine ⟨_, rfl, hK.out _ _ hS fun _ => ?_⟩
        clear hK
        simp only [List.setIfInBounds_toArray, List.set_cons_succ, List.set_cons_zero]
        refine takeD (i := 7) (d := 45) (v := .tuple #[.agg #[.int .i64 T.pos, .bool T.ref], .slice po T.out.length ko]) rfl rfl (by kernel_rfl) (by kernel_rfl) (by kernel_rfl) (fun c a w h => h) (yieldsIf_op rfl (fun w => by first | rfl | kernel_rfl | (go_simp; done))) hS ?_
        simp only [List.setIfInBounds_toArray, List.set_cons_succ, List.set_cons_zero]
        refine takeD (i := 8) (d := 53) (v := .agg #[.int .i64 T.pos, .bool T.ref]) rfl rfl (by kernel_rfl) (by kernel_rfl) (by kernel_rfl) (fun c a w h => h) (yieldsIf_op rfl (fun w => by first | rfl | kernel_rfl | (go_simp; done))) hS ?_
        simp only [List.setIfInBounds_toArray, List.set_cons_succ, List.set_cons_zero]
        refine takeD (i := 9) (d := 54) (v := .slice po T.out.length ko) rfl rfl (by kernel_rfl) (by kernel_rfl) (by kernel_rfl) (fun c a w h => h) (yieldsIf_op rfl (fun w => by first | rfl | kernel_rfl | (go_simp; done))) hS ?_
        simp only [List.setIfInBounds_toArray, List.set_cons_succ, List.set_cons_zero]
        refine wpAnyH_ready (rs := [11]) (by kernel_rfl) (by simp) (AllReadyH.cons rfl (fun K' hK => ?_) AllReadyH.nil)
        refine storeD (f := oV) (l := [oi 0, ob false]) (l' := [oi T.pos, ob T.ref]) (t := 28) (C := #[.int .i64 T.pos, .bool T.ref]) aggNS (.tmp 13) (.tmp 53) rfl rfl rfl X5.drew.heap.size rfl rfl rfl hz rfl oV_one ?_
        intro Y hsY hGY
        have hbl := hlo
        have hSY := hS.grown hGY hS.size (fun k e => by cases e; exact hbl)
        replace hO := hO.grown' hGY (fun g hg e => by injection e with e; exact hOz g hg e)
        refine hK.out _ _ hSY fun _ => ?_
        clear hK hS
        have hS := hSY
        refine takeD (i := 12) (d := 14) (v := .slice po T.out.length ko) rfl rfl (by kernel_rfl) (by kernel_rfl) (by kernel_rfl) (fun c a w h => h) (yieldsIf_op rfl (fun w => by first | rfl | kernel_rfl | (go_simp; done))) hS ?_
        simp only [List.setIfInBounds_toArray, List.set_cons_succ, List.set_cons_zero]
        refine wpAnyH_done (by kernel_rfl) ?_ _
        go_wp2
        go_meet
        exact ⟨_, po, ko, rfl, rfl, hsY, hO.rd, hSY⟩
  obtain ⟨n13, pon13, kon13, rfl, rfl, hrow, hout, hb⟩ := hcut
  obtain ⟨X6, hz0⟩ : ∃ Z, Z = wc := ⟨_, rfl⟩
  subst hz0
  have H13 := Lib.hid hrow
  have hln13 : n13 < X6.heap.size := hrow.lt
  have O14 := Lib.hid hout
  replace HN := Lib.hid (HN.out.below hb)
  replace HR8 := Lib.hid (HR8.out.below hb hl8)
  replace hl8 : n8 < X6.heap.size := Nat.lt_of_lt_of_le hl8 hb.size
  replace HB := Lib.hid (HB.out.below hb)
  replace hB := hB.trans (hb.mono hB.size)
  replace O12 := Lib.hid (O12.out.below hb)
  clear hb hrow hout HPT hsl hpl
  go_upto_region 7 with (fail)
  obtain ⟨q, hsl, hpt⟩ := cut_l Tryz.underlying29 size8 HB.out j hjb
  have hpl : (b.drop j).length ≤ 140737488351232 := by rw [List.length_drop]; omega
  have HPT := Lib.hid hpt
  clear hpt
  go_cut [15, 16] (fun sa sb wx => ∃ nb po ko, sa = .pointer (some ⟨nb, 0, none⟩) ∧ sb = .slice po U.out.length ko ∧ Row oV wx nb 28 [oi U.pos, ob U.ref] ∧ Rd u8V wx (.slice po U.out.length ko) U.out ∧ Below X6.heap.size X6 wx)
  · refine wp_region_held_drew (S := fun XX => Below X6.heap.size X6 XX) rfl (Below.refl _ _).drew fun hS => ?_
    refine takeD (i := 0) (d := 56) (v := .agg #[.slice pc N.cls.length kc, .slice pr N.rows.length kr, .slice pe N.ends.length ke]) rfl rfl (by kernel_rfl) (by kernel_rfl) (by kernel_rfl) (fun c a w h => h) (yieldsIf_load (f := oV) (l := [slO pc N.cls.length kc, slO pr N.rows.length kr, slO pe N.ends.length ke]) aggNorm (.tmp 8) rfl n8 0 rfl (fun W' h => (HR8.out.below h hl8).at) rfl rfl) hS ?_
    simp only [List.setIfInBounds_toArray, List.set_cons_succ, List.set_cons_zero]
    refine takeD (i := 1) (d := 57) (v := .agg #[.int .i64 T.pos, .bool T.ref]) rfl rfl (by kernel_rfl) (by kernel_rfl) (by kernel_rfl) (fun c a w h => h) (yieldsIf_load (f := oV) (l := [oi T.pos, ob T.ref]) aggNS (.tmp 13) rfl n13 0 rfl (fun W' h => (H13.out.below h hln13).at) rfl rfl) hS ?_
    simp only [List.setIfInBounds_toArray, List.set_cons_succ, List.set_cons_zero]
    refine takeD (i := 2) (d := 58) (v := .slice p2 b.length c2) rfl rfl (by kernel_rfl) (by kernel_rfl) (by kernel_rfl) (fun c a w h => h) (yieldsIf_op rfl (fun w => by first | rfl | kernel_rfl | (go_simp; done))) hS ?_
    simp only [List.setIfInBounds_toArray, List.set_cons_succ, List.set_cons_zero]
    refine takeD (i := 3) (d := 59) (v := .int .i64 j) rfl rfl (by kernel_rfl) (by kernel_rfl) (by kernel_rfl) (fun c a w h => h) (yieldsIf_op rfl (fun w => by first | rfl | kernel_rfl | (go_simp; done))) hS ?_
    simp only [List.setIfInBounds_toArray, List.set_cons_succ, List.set_cons_zero]
    refine takeD (i := 4) (d := 60) (v := .slice q (b.drop j).length (c2 - j)) rfl rfl (by kernel_rfl) (by kernel_rfl) (by kernel_rfl) (fun c a w h => h) (.inl ⟨by first | rfl | kernel_rfl, fun W' h => by have q0 := hsl W'; go_simp⟩) hS ?_
    simp only [List.setIfInBounds_toArray, List.set_cons_succ, List.set_cons_zero]
    refine wpAnyH_ready (rs := [5, 9]) (by kernel_rfl) (by simp) (AllReadyH.cons rfl (fun K' hK => ?_) (AllReadyH.cons rfl (fun K' hK => ?_) AllReadyH.nil))
    · refine callD (d := 61) (g := 11) (args := #[.agg #[.slice pc N.cls.length kc, .slice pr N.rows.length kr, .slice pe N.ends.length ke], .agg #[.int .i64 T.pos, .bool T.ref], .slice q (b.drop j).length (c2 - j)]) rfl rfl (by first | kernel_rfl | (simp [execOp, resolve, invoke, Act.eval]) | go_simp) ?_
      refine (nFeed X6.drew N pc pr pe q kc kr ke (c2 - j) T.pos T.ref (b.drop j) (HN.out.below hS) (HPT.out.below hS) hpl hcov).mono ?_
      rintro e A1 ⟨hBx, ⟨hno, rfl⟩ | ⟨_, s, hsr, po, ko, rfl, hO⟩⟩
      · rw [ok2.out] at hno; cases hno
      have hse : U = s := HUU.out.trans hsr.out.symm
      subst hse
      clear hsr
      replace hS := hS.trans (hBx.mono hS.size)
      refine ⟨_, rfl, hK.out _ _ hS fun _ => ?_⟩
      clear hK
      simp only [List.setIfInBounds_toArray, List.set_cons_succ, List.set_cons_zero]
      refine takeD (i := 6) (d := 55) (v := .tuple #[.agg #[.int .i64 U.pos, .bool U.ref], .slice po U.out.length ko]) rfl rfl (by kernel_rfl) (by kernel_rfl) (by kernel_rfl) (fun c a w h => h) (yieldsIf_op rfl (fun w => by first | rfl | kernel_rfl | (go_simp; done))) hS ?_
      simp only [List.setIfInBounds_toArray, List.set_cons_succ, List.set_cons_zero]
      refine takeD (i := 7) (d := 62) (v := .agg #[.int .i64 U.pos, .bool U.ref]) rfl rfl (by kernel_rfl) (by kernel_rfl) (by kernel_rfl) (fun c a w h => h) (yieldsIf_op rfl (fun w => by first | rfl | kernel_rfl | (go_simp; done))) hS ?_
      simp only [List.setIfInBounds_toArray, List.set_cons_succ, List.set_cons_zero]
      refine takeD (i := 8) (d := 63) (v := .slice po U.out.length ko) rfl rfl (by kernel_rfl) (by kernel_rfl) (by kernel_rfl) (fun c a w h => h) (yieldsIf_op rfl (fun w => by first | rfl | kernel_rfl | (go_simp; done))) hS ?_
      simp only [List.setIfInBounds_toArray, List.set_cons_succ, List.set_cons_zero]
      refine wpAnyH_ready (rs := [9]) (by kernel_rfl) (by simp) (AllReadyH.cons rfl (fun K' hK => ?_) AllReadyH.nil)
      · have hz : Row oV (A1.alloc (.cells #[.int .i64 0, .bool false] 28)) A1.heap.size 28 [oi 0, ob false] := Row.new _ _ rfl
        have hBx := below_al (Below.refl A1.heap.size A1) (Nat.le_refl _) (.cells #[.int .i64 0, .bool false] 28)
        refine allocD (d := 15) (ob := (.cells #[.int .i64 0, .bool false] 28)) rfl rfl (by first | rfl | kernel_rfl) ?_
        generalize (A1.alloc (.cells #[.int .i64 0, .bool false] 28)) = A2 at *
        have hlo : X6.heap.size ≤ A1.heap.size := hS.size
        have hOz : ∀ g, (Value.slice po U.out.length ko).ownBlock = some g → g ≠ A1.heap.size := fun g hg e => by have h1 := (hO.lt g hg).2; omega
        replace hO := hO.below' hBx
        replace hS := hS.trans (hBx.mono hS.size)
        refine hK.out _ _ hS fun _ => ?_
        clear hK
        simp only [List.setIfInBounds_toArray, List.set_cons_succ, List.set_cons_zero]
        refine wpAnyH_ready (rs := [10]) (by kernel_rfl) (by simp) (AllReadyH.cons rfl (fun K' hK => ?_) AllReadyH.nil)
        refine storeD (f := oV) (l := [oi 0, ob false]) (l' := [oi U.pos, ob U.ref]) (t := 28) (C := #[.int .i64 U.pos, .bool U.ref]) aggNS (.tmp 15) (.tmp 62) rfl rfl rfl A1.heap.size rfl rfl rfl hz rfl oV_one ?_
        intro Y hsY hGY
        have hbl := hlo
        have hSY := hS.grown hGY hS.size (fun k e => by cases e; exact hbl)
        replace hO := hO.grown' hGY (fun g hg e => by injection e with e; exact hOz g hg e)
        refine hK.out _ _ hSY fun _ => ?_
        clear hK hS
        have hS := hSY
        refine takeD (i := 11) (d := 16) (v := .slice po U.out.length ko) rfl rfl (by kernel_rfl) (by kernel_rfl) (by kernel_rfl) (fun c a w h => h) (yieldsIf_op rfl (fun w => by first | rfl | kernel_rfl | (go_simp; done))) hS ?_
        simp only [List.setIfInBounds_toArray, List.set_cons_succ, List.set_cons_zero]
        refine wpAnyH_done (by kernel_rfl) ?_ _
        go_wp2
        go_meet
        exact ⟨_, po, ko, rfl, rfl, hsY, hO.rd, hSY⟩
    · have hz : Row oV (X6.drew.alloc (.cells #[.int .i64 0, .bool false] 28)) X6.drew.heap.size 28 [oi 0, ob false] := Row.new _ _ rfl
      have hBx := below_al (Below.refl X6.drew.heap.size X6.drew) (Nat.le_refl _) (.cells #[.int .i64 0, .bool false] 28)
      refine allocD (d := 15) (ob := (.cells #[.int .i64 0, .bool false] 28)) rfl rfl (by first | rfl | kernel_rfl) ?_
      generalize (X6.drew.alloc (.cells #[.int .i64 0, .bool false] 28)) = A3 at *
      have hlo : X6.heap.size ≤ X6.drew.heap.size := hS.size
      replace hS := hS.trans (hBx.mono hS.size)
      refine hK.out _ _ hS fun _ => ?_
      clear hK
      simp only [List.setIfInBounds_toArray, List.set_cons_succ, List.set_cons_zero]
      refine wpAnyH_ready (rs := [5]) (by kernel_rfl) (by simp) (AllReadyH.cons rfl (fun K' hK => ?_) AllReadyH.nil)
      · refine callD (d := 61) (g := 11) (args := #[.agg #[.slice pc N.cls.length kc, .slice pr N.rows.length kr, .slice pe N.ends.length ke], .agg #[.int .i64 T.pos, .bool T.ref], .slice q (b.drop j).length (c2 - j)]) rfl rfl (by first | kernel_rfl | (simp [execOp, resolve, invoke, Act.eval]) | go_simp) ?_
        refine (nFeed A3 N pc pr pe q kc kr ke (c2 - j) T.pos T.ref (b.drop j) (HN.out.below hS) (HPT.out.below hS) hpl hcov).mono ?_
        rintro e A4 ⟨hBx, ⟨hno, rfl⟩ | ⟨_, s, hsr, po, ko, rfl, hO⟩⟩
        · rw [ok2.out] at hno; cases hno
        have hse : U = s := HUU.out.trans hsr.out.symm
        subst hse
        clear hsr
        have hOz : ∀ g, (Value.slice po U.out.length ko).ownBlock = some g → g ≠ X6.drew.heap.size := fun g hg e => by have h1 := (hO.lt g hg).1; have h2 := hz.lt; omega
        replace hz := hz.below hBx hz.lt
        replace hS := hS.trans (hBx.mono hS.size)
        refine ⟨_, rfl, hK.out _ _ hS fun _ => ?_⟩
        clear hK
        simp only [List.setIfInBounds_toArray, List.set_cons_succ, List.set_cons_zero]
        refine takeD (i := 6) (d := 55) (v := .tuple #[.agg #[.int .i64 U.pos, .bool U.ref], .slice po U.out.length ko]) rfl rfl (by kernel_rfl) (by kernel_rfl) (by kernel_rfl) (fun c a w h => h) (yieldsIf_op rfl (fun w => by first | rfl | kernel_rfl | (go_simp; done))) hS ?_
        simp only [List.setIfInBounds_toArray, List.set_cons_succ, List.set_cons_zero]
        refine takeD (i := 7) (d := 62) (v := .agg #[.int .i64 U.pos, .bool U.ref]) rfl rfl (by kernel_rfl) (by kernel_rfl) (by kernel_rfl) (fun c a w h => h) (yieldsIf_op rfl (fun w => by first | rfl | kernel_rfl | (go_simp; done))) hS ?_
        simp only [List.setIfInBounds_toArray, List.set_cons_succ, List.set_cons_zero]
        refine takeD (i := 8) (d := 63) (v := .slice po U.out.length ko) rfl rfl (by kernel_rfl) (by kernel_rfl) (by kernel_rfl) (fun c a w h => h) (yieldsIf_op rfl (fun w => by first | rfl | kernel_rfl | (go_simp; done))) hS ?_
        simp only [List.setIfInBounds_toArray, List.set_cons_succ, List.set_cons_zero]
        refine wpAnyH_ready (rs := [10]) (by kernel_rfl) (by simp) (AllReadyH.cons rfl (fun K' hK => ?_) AllReadyH.nil)
        refine storeD (f := oV) (l := [oi 0, ob false]) (l' := [oi U.pos, ob U.ref]) (t := 28) (C := #[.int .i64 U.pos, .bool U.ref]) aggNS (.tmp 15) (.tmp 62) rfl rfl rfl X6.drew.heap.size rfl rfl rfl hz rfl oV_one ?_
        intro Y hsY hGY
        have hbl := hlo
        have hSY := hS.grown hGY hS.size (fun k e => by cases e; exact hbl)
        replace hO := hO.grown' hGY (fun g hg e => by injection e with e; exact hOz g hg e)
        refine hK.out _ _ hSY fun _ => ?_
        clear hK hS
        have hS := hSY
        refine takeD (i := 11) (d := 16) (v := .slice po U.out.length ko) rfl rfl (by kernel_rfl) (by kernel_rfl) (by kernel_rfl) (fun c a w h => h) (yieldsIf_op rfl (fun w => by first | rfl | kernel_rfl | (go_simp; done))) hS ?_
        simp only [List.setIfInBounds_toArray, List.set_cons_succ, List.set_cons_zero]
        refine wpAnyH_done (by kernel_rfl) ?_ _
        go_wp2
        go_meet
        exact ⟨_, po, ko, rfl, rfl, hsY, hO.rd, hSY⟩
  obtain ⟨n15, pon15, kon15, rfl, rfl, hrow, hout, hb⟩ := hcut
  obtain ⟨X7, hz0⟩ : ∃ Z, Z = wc := ⟨_, rfl⟩
  subst hz0
  have H15 := Lib.hid hrow
  have hln15 : n15 < X7.heap.size := hrow.lt
  have O16 := Lib.hid hout
  replace HN := Lib.hid (HN.out.below hb)
  replace HR8 := Lib.hid (HR8.out.below hb hl8)
  replace hl8 : n8 < X7.heap.size := Nat.lt_of_lt_of_le hl8 hb.size
  replace HB := Lib.hid (HB.out.below hb)
  replace hB := hB.trans (hb.mono hB.size)
  replace O12 := Lib.hid (O12.out.below hb)
  replace O14 := Lib.hid (O14.out.below hb)
  clear hb hrow hout HPT hsl hpl
  go_upto_region 8 with (fail)
  go_wp2_with ((with_reducible refine load_agg (f := oV) (l := [slO pc N.cls.length kc, slO pr N.rows.length kr, slO pe N.ends.length ke]) (C := #[.slice pc N.cls.length kc, .slice pr N.rows.length kr, .slice pe N.ends.length ke]) aggNorm (.tmp 8) ?_ ?_ n8 0 ?_ HR8.out.at rfl ?_); rfl; rfl; rfl)
  refine (nRun X7 N pc pr pe p2 kc kr ke c2 b HN.out HB.out hbn hcov).mono ?_
  rintro e X8 ⟨hb, hres⟩
  replace HN := Lib.hid (HN.out.below hb)
  replace HR8 := Lib.hid (HR8.out.below hb hl8)
  replace H15 := Lib.hid (H15.out.below hb hln15)
  replace O12 := Lib.hid (O12.out.below hb)
  replace O14 := Lib.hid (O14.out.below hb)
  replace O16 := Lib.hid (O16.out.below hb)
  replace hB := hB.trans (hb.mono hB.size)
  clear hb HB
  obtain ⟨c0, c1', c2'⟩ := row3 HR8.out
  obtain ⟨e0, e1⟩ := row2 H15.out
  rcases hres with ⟨hno, rfl⟩ | ⟨hyes, m, hm, po, ko, rfl, hO⟩
  · have hf : Hid (N.fin U.pos U.ref = false) := Lib.hid (hacc.out.symm.trans hno)
    clear hno
    go_wp2_with fail
    refine (nFinish X8 N pc pr pe kc kr ke U.pos U.ref HN.out).mono ?_
    rintro e X9 ⟨rfl, hb⟩
    rw [hf.out]
    clear c0 c1' c2' e0 e1
    go_wp2
    go_ret
    exact ⟨rfl, hB.trans (hb.mono hB.size)⟩
  · have hf : Hid (N.fin U.pos U.ref = true) := Lib.hid (hacc.out.symm.trans hyes)
    have OM := Lib.hid hO.rd
    clear hyes hO
    go_wp2_with fail
    refine (nFinish X8 N pc pr pe kc kr ke U.pos U.ref HN.out).mono ?_
    rintro e X9 ⟨rfl, hb⟩
    rw [hf.out]
    clear c0 c1' c2' e0 e1
    replace hB := hB.trans (hb.mono hB.size)
    have hm2 : Hid (S.out ++ (T.out ++ U.out) = m) := Lib.hid (houts.out.trans hm.out.symm)
    generalize S.out = so at *
    generalize T.out = tt at *
    generalize U.out = uo at *
    have cvso : (convert 29 9 (.slice pon11 so.length kon11)).run Tryz.prog X9 = .ok (.string ⟨so.toArray⟩) X9 := run_convert_rd Tryz.underlying29 Tryz.underlying5 Tryz.underlying9 (O12.out.below hb)
    have cvtt : (convert 29 9 (.slice pon13 tt.length kon13)).run Tryz.prog X9 = .ok (.string ⟨tt.toArray⟩) X9 := run_convert_rd Tryz.underlying29 Tryz.underlying5 Tryz.underlying9 (O14.out.below hb)
    have cvuo : (convert 29 9 (.slice pon15 uo.length kon15)).run Tryz.prog X9 = .ok (.string ⟨uo.toArray⟩) X9 := run_convert_rd Tryz.underlying29 Tryz.underlying5 Tryz.underlying9 (O16.out.below hb)
    have cvm : (convert 29 9 (.slice po m.length ko)).run Tryz.prog X9 = .ok (.string ⟨m.toArray⟩) X9 := run_convert_rd Tryz.underlying29 Tryz.underlying5 Tryz.underlying9 (OM.out.below hb)
    clear hb O12 O14 O16 OM
    have hml : so.length + (tt.length + uo.length) ≤ 140737488351232 := by
      have h1 := congrArg List.length hm2.out
      have h2 : m.length ≤ b.length := by rw [hm.out]; have := N.out_le b ⟨0, false, []⟩; simpa using this
      simp only [List.length_append] at h1
      omega
    have hl1 : ¬ 9223372036854775807 < so.length + tt.length := by omega
    have hl2 : ¬ 9223372036854775807 < so.length + tt.length + uo.length := by omega
    clear hml
    go_wp2
    go_ret
    have hfin : ((⟨so.toArray⟩ ++ ⟨tt.toArray⟩ ++ ⟨uo.toArray⟩ : ByteArray).toList == m) = true := by
      rw [← hm2.out]
      exact ba_cat _ _ _
    exact ⟨by rw [hfin]; rfl, hB⟩
end Go.Proofs.YtgflelodpcgmbaaGreatDoor
