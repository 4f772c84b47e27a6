/- The walk of univocallaw25.NormalTransducerMatchesReference: it returns true. -/
import Derived.Test.YtgflelodpcgmbaaGreatDoorMSanity
import Derived.Test.YtgflelodpcgmbaaGreatDoorMScopeG
import Derived.Test.YtgflelodpcgmbaaGreatDoorMTrP
import Derived.Test.YtgflelodpcgmbaaGreatDoorMRTrans
namespace Go.Proofs.YtgflelodpcgmbaaGreatDoor
open Go Go.RowKit Mem
set_option maxRecDepth 100000

theorem aggSc3 : AggT Tryz.prog 42 2 := ⟨fun _ => by kernel_rfl, fun _ => by kernel_rfl⟩
theorem TrAt.shape {w : World} {v : Value} {T : Tr} (h : TrAt w v T) : ∃ (qc qm qf qe : Option Addr) (jc jm jf je : Nat), v = .agg #[.slice qc T.cls.length jc, .slice qm T.moves.length jm, .slice qf T.fin.length jf, .slice qe T.ends.length je] := by
  obtain ⟨vc, vm, vf, ve, rfl, h1, h2, h3, h4⟩ := h
  obtain ⟨qc, jc, rfl⟩ := h1.slice
  obtain ⟨qm, jm, rfl⟩ := h2.slice
  obtain ⟨qf, jf, rfl⟩ := h3.slice
  obtain ⟨qe, je, rfl⟩ := h4.slice
  exact ⟨qc, qm, qf, qe, jc, jm, jf, je, rfl⟩
theorem trn_small (N : NZ) : N.trn.cls.length ≤ 4294967296 ∧ N.trn.moves.length ≤ 4294967296 ∧ N.trn.fin.length ≤ 4294967296 ∧ N.trn.ends.length ≤ 4294967296 ∧ (∀ r ∈ N.trn.moves, r.length ≤ 4294967296 ∧ ∀ m ∈ r, m.out.length ≤ 4294967296) := by
  by_cases hval : N.valid = true
  · have ht : N.trn = ⟨N.cls, N.rows.map fun r => r.map Ce.mv, N.ends, N.ends.map fun _ => []⟩ := by unfold NZ.trn; rw [if_pos hval]
    have hv := (valid_iff N).1 hval
    rw [ht]
    refine ⟨by show N.cls.length ≤ _; omega, by show (N.rows.map _).length ≤ _; rw [List.length_map]; omega, by show N.ends.length ≤ _; omega, by show (N.ends.map _).length ≤ _; rw [List.length_map]; omega, fun r hr => ?_⟩
    obtain ⟨row, hrow, rfl⟩ := List.mem_map.1 hr
    have hl := (hv.2.2.2.2 row hrow).1
    refine ⟨by rw [List.length_map]; omega, fun m hm => ?_⟩
    obtain ⟨c, _, rfl⟩ := List.mem_map.1 hm
    have : c.mv.out.length ≤ 1 := by unfold Ce.mv; simp only; split <;> (try split) <;> simp
    omega
  · have ht : N.trn = ⟨[], [], [], []⟩ := by unfold NZ.trn; rw [if_neg hval]
    rw [ht]
    exact ⟨by simp, by simp, by simp, by simp, fun r hr => by cases hr⟩

set_option maxHeartbeats 32000000 in
theorem transW (w : World) (N : NZ) (pc pr pe pa : Option Addr) (kc kr ke ka : Nat) (al : List UInt8) (most : Int) (hv : NzAt w (.agg #[.slice pc N.cls.length kc, .slice pr N.rows.length kr, .slice pe N.ends.length ke]) N) (ha0 : Rd u8V w (.slice pa al.length ka) al) :
    Calls Tryz.prog 7 #[.agg #[.slice pc N.cls.length kc, .slice pr N.rows.length kr, .slice pe N.ends.length ke], .agg #[.slice pa al.length ka, .int .i64 most]] w fun e w' => e = .returned (.bool true) ∧ Below w.heap.size w w' := by
  have HV := Lib.hid hv
  have HA := Lib.hid ha0
  clear hv ha0
  go_enter Tryz.func7, Tryz.ntmps7
  go_upto_region 1 with (fail)
  obtain ⟨W, hW, hB, hs, g0, g1⟩ : ∃ W, ((w.alloc (.cells #[.slice pc N.cls.length kc, .slice pr N.rows.length kr, .slice pe N.ends.length ke] 26)).alloc (.cells #[.slice pa al.length ka, .int .i64 most] 42)) = W ∧ Below w.heap.size w W ∧ w.heap.size + 2 ≤ W.heap.size ∧ Row oV W w.heap.size 26 [slO pc N.cls.length kc, slO pr N.rows.length kr, slO pe N.ends.length ke] ∧ Row oV W (w.heap.size + 1) 42 [slO pa al.length ka, oi most] := by
    refine ⟨_, rfl, below_al (below_al (Below.refl _ _) (Nat.le_refl _) _) (Nat.le_refl _) _, by simp, ?_, ?_⟩
    · exact Row.alloc (Row.new (f := oV) (l := [slO pc N.cls.length kc, slO pr N.rows.length kr, slO pe N.ends.length ke]) w _ rfl) _
    · have h := Row.new (f := oV) (l := [slO pa al.length ka, oi most]) (w.alloc (.cells #[.slice pc N.cls.length kc, .slice pr N.rows.length kr, .slice pe N.ends.length ke] 26)) (.cells #[.slice pa al.length ka, .int .i64 most] 42) (t := 42) rfl
      simpa using h
  rw [hW]
  clear hW
  go_wp2_with fail
  refine (sanity1 W).mono ?_
  rintro e X1 ⟨rfl, hb1⟩
  have HR3 := Lib.hid (g0.below hb1 g0.lt)
  have HR4 := Lib.hid (g1.below hb1 g1.lt)
  replace hB := hB.trans (hb1.mono hB.size)
  have hl3 : w.heap.size < X1.heap.size := HR3.out.lt
  have hl4 : w.heap.size + 1 < X1.heap.size := HR4.out.lt
  clear hb1 g0 g1 hs
  go_wp2_with ((with_reducible refine load_agg (f := oV) (l := [slO pc N.cls.length kc, slO pr N.rows.length kr, slO pe N.ends.length ke]) (C := #[.slice pc N.cls.length kc, .slice pr N.rows.length kr, .slice pe N.ends.length ke]) aggNorm (.tmp 2) ?_ ?_ w.heap.size 0 ?_ HR3.out.at rfl ?_); rfl; rfl; rfl)
  refine (nTransducer X1 N pc pr pe kc kr ke (HV.out.below hB)).mono ?_
  rintro e X2 ⟨⟨v, cd1, rfl, hcd1, hT⟩, hb⟩
  obtain ⟨qc1, qm1, qf1, qe1, jc1, jm1, jf1, je1, rfl⟩ := hT.shape
  have HT1 := Lib.hid hT
  replace hcd1 := Lib.hid hcd1
  clear hT
  replace HR3 := Lib.hid (HR3.out.below hb hl3)
  replace HR4 := Lib.hid (HR4.out.below hb hl4)
  replace hB := hB.trans (hb.mono hB.size)
  replace hl3 : w.heap.size < X2.heap.size := HR3.out.lt
  replace hl4 : w.heap.size + 1 < X2.heap.size := HR4.out.lt
  clear hb
  obtain ⟨T, hTe⟩ : ∃ T, T = N.trn := ⟨_, rfl⟩
  rw [← hTe] at HT1 ⊢
  have hZ : Row oV (X2.alloc (.cells #[.slice none 0 0, .slice none 0 0, .slice none 0 0, .slice none 0 0] 53)) X2.heap.size 53 [on, on, on, on] := Row.new _ _ rfl
  replace hTe := Lib.hid hTe
  go_upto_region 3 with (((with_reducible refine store_agg (f := oV) (l := [on, on, on, on]) (l' := [slO qc1 T.cls.length jc1, slO qm1 T.moves.length jm1, slO qf1 T.fin.length jf1, slO qe1 T.ends.length je1]) (t := 53) (C := #[.slice qc1 T.cls.length jc1, .slice qm1 T.moves.length jm1, .slice qf1 T.fin.length jf1, .slice qe1 T.ends.length je1]) aggTr (.tmp 6) (.tmp 18) ?_ ?_ X2.heap.size ?_ ?_ ?_ hZ ?_ oV_one ?_); rfl; rfl; rfl; rfl; rfl; rfl; (intro X3 hs hG hz)))
  have hb := below_row (Below.refl X2.heap.size X2) hG
  have HR6 := Lib.hid hs
  have hl6 : X2.heap.size < X3.heap.size := hs.lt
  clear hZ hs hG hz
  replace HR3 := Lib.hid (HR3.out.below hb hl3)
  replace HR4 := Lib.hid (HR4.out.below hb hl4)
  replace hB := hB.trans (hb.mono hB.size)
  replace hl3 : w.heap.size < X3.heap.size := HR3.out.lt
  replace hl4 : w.heap.size + 1 < X3.heap.size := HR4.out.lt
  replace HT1 := Lib.hid (HT1.out.below hb)
  clear hb
  generalize X2.heap.size = n6 at *
  replace hTe := hTe.out
  go_wp2_with ((with_reducible refine load_agg (f := oV) (l := [slO pc N.cls.length kc, slO pr N.rows.length kr, slO pe N.ends.length ke]) (C := #[.slice pc N.cls.length kc, .slice pr N.rows.length kr, .slice pe N.ends.length ke]) aggNorm (.tmp 2) ?_ ?_ w.heap.size 0 ?_ HR3.out.at rfl ?_); rfl; rfl; rfl)
  refine (rTransducer X3 N pc pr pe kc kr ke (HV.out.below hB)).mono ?_
  rintro e X4 ⟨⟨v, cd2, rfl, hcd2, hT⟩, hb⟩
  obtain ⟨qc2, qm2, qf2, qe2, jc2, jm2, jf2, je2, rfl⟩ := hT.shape
  have HT2 := Lib.hid hT
  replace hcd2 := Lib.hid hcd2
  clear hT
  replace HR3 := Lib.hid (HR3.out.below hb hl3)
  replace HR4 := Lib.hid (HR4.out.below hb hl4)
  replace hB := hB.trans (hb.mono hB.size)
  replace hl3 : w.heap.size < X4.heap.size := HR3.out.lt
  replace hl4 : w.heap.size + 1 < X4.heap.size := HR4.out.lt
  replace HT1 := Lib.hid (HT1.out.below hb)
  replace HR6 := Lib.hid (HR6.out.below hb hl6)
  replace hl6 : n6 < X4.heap.size := HR6.out.lt
  clear hb
  rw [← hTe] at HT2 ⊢
  have hZ : Row oV (X4.alloc (.cells #[.slice none 0 0, .slice none 0 0, .slice none 0 0, .slice none 0 0] 53)) X4.heap.size 53 [on, on, on, on] := Row.new _ _ rfl
  replace hTe := Lib.hid hTe
  go_upto_region 4 with (((with_reducible refine store_agg (f := oV) (l := [on, on, on, on]) (l' := [slO qc2 T.cls.length jc2, slO qm2 T.moves.length jm2, slO qf2 T.fin.length jf2, slO qe2 T.ends.length je2]) (t := 53) (C := #[.slice qc2 T.cls.length jc2, .slice qm2 T.moves.length jm2, .slice qf2 T.fin.length jf2, .slice qe2 T.ends.length je2]) aggTr (.tmp 8) (.tmp 23) ?_ ?_ X4.heap.size ?_ ?_ ?_ hZ ?_ oV_one ?_); rfl; rfl; rfl; rfl; rfl; rfl; (intro X5 hs hG hz)))
  have hb := below_row (Below.refl X4.heap.size X4) hG
  have HR8 := Lib.hid hs
  have hl8 : X4.heap.size < X5.heap.size := hs.lt
  clear hZ hs hG hz
  replace HR3 := Lib.hid (HR3.out.below hb hl3)
  replace HR4 := Lib.hid (HR4.out.below hb hl4)
  replace hB := hB.trans (hb.mono hB.size)
  replace hl3 : w.heap.size < X5.heap.size := HR3.out.lt
  replace hl4 : w.heap.size + 1 < X5.heap.size := HR4.out.lt
  replace HT1 := Lib.hid (HT1.out.below hb)
  replace HR6 := Lib.hid (HR6.out.below hb hl6)
  replace hl6 : n6 < X5.heap.size := HR6.out.lt
  replace HT2 := Lib.hid (HT2.out.below hb)
  clear hb
  generalize X4.heap.size = n8 at *
  go_wp2_with (first | ((with_reducible refine load_agg (f := oV) (l := [slO pc N.cls.length kc, slO pr N.rows.length kr, slO pe N.ends.length ke]) (C := #[.slice pc N.cls.length kc, .slice pr N.rows.length kr, .slice pe N.ends.length ke]) aggNorm (.tmp 2) ?_ ?_ w.heap.size 0 ?_ HR3.out.at rfl ?_); rfl; rfl; rfl) | ((with_reducible refine load_agg (f := oV) (l := [slO pa al.length ka, oi most]) (C := #[.slice pa al.length ka, .int .i64 most]) aggSc3 (.tmp 3) ?_ ?_ (w.heap.size + 1) 0 ?_ HR4.out.at rfl ?_); rfl; rfl; rfl))
  refine (nRefusalsG X5 N pc pr pe pa kc kr ke ka al most (HV.out.below hB) (HA.out.below hB)).mono ?_
  rintro e X6 ⟨rfl, hb⟩
  replace HR3 := Lib.hid (HR3.out.below hb hl3)
  replace HR4 := Lib.hid (HR4.out.below hb hl4)
  replace hB := hB.trans (hb.mono hB.size)
  replace hl3 : w.heap.size < X6.heap.size := HR3.out.lt
  replace hl4 : w.heap.size + 1 < X6.heap.size := HR4.out.lt
  replace HT1 := Lib.hid (HT1.out.below hb)
  replace HT2 := Lib.hid (HT2.out.below hb)
  replace HR6 := Lib.hid (HR6.out.below hb hl6)
  replace hl6 : n6 < X6.heap.size := HR6.out.lt
  replace HR8 := Lib.hid (HR8.out.below hb hl8)
  replace hl8 : n8 < X6.heap.size := HR8.out.lt
  clear hb
  go_wp2_with (first | ((with_reducible refine load_agg (f := oV) (l := [slO pc N.cls.length kc, slO pr N.rows.length kr, slO pe N.ends.length ke]) (C := #[.slice pc N.cls.length kc, .slice pr N.rows.length kr, .slice pe N.ends.length ke]) aggNorm (.tmp 2) ?_ ?_ w.heap.size 0 ?_ HR3.out.at rfl ?_); rfl; rfl; rfl) | ((with_reducible refine load_agg (f := oV) (l := [slO pa al.length ka, oi most]) (C := #[.slice pa al.length ka, .int .i64 most]) aggSc3 (.tmp 3) ?_ ?_ (w.heap.size + 1) 0 ?_ HR4.out.at rfl ?_); rfl; rfl; rfl))
  refine (rRefusals X6 N pc pr pe pa kc kr ke ka al most (HV.out.below hB) (HA.out.below hB)).mono ?_
  rintro e X7 ⟨rfl, hb⟩
  replace HR3 := Lib.hid (HR3.out.below hb hl3)
  replace HR4 := Lib.hid (HR4.out.below hb hl4)
  replace hB := hB.trans (hb.mono hB.size)
  replace hl3 : w.heap.size < X7.heap.size := HR3.out.lt
  replace hl4 : w.heap.size + 1 < X7.heap.size := HR4.out.lt
  replace HT1 := Lib.hid (HT1.out.below hb)
  replace HT2 := Lib.hid (HT2.out.below hb)
  replace HR6 := Lib.hid (HR6.out.below hb hl6)
  replace hl6 : n6 < X7.heap.size := HR6.out.lt
  replace HR8 := Lib.hid (HR8.out.below hb hl8)
  replace hl8 : n8 < X7.heap.size := HR8.out.lt
  clear hb
  have hcc : cd2 = cd1 := hcd2.out.trans hcd1.out.symm
  subst hcc
  have hsm : T.cls.length ≤ 4294967296 ∧ T.moves.length ≤ 4294967296 ∧ T.fin.length ≤ 4294967296 ∧ T.ends.length ≤ 4294967296 ∧ (∀ r ∈ T.moves, r.length ≤ 4294967296 ∧ ∀ m ∈ r, m.out.length ≤ 4294967296) := by rw [hTe.out]; exact trn_small N
  replace hsm := Lib.hid hsm
  generalize (N.refAns al most).1 = ra at *
  generalize (N.refAns al most).2 = rb at *
  clear hcd1 hcd2 hTe HV HA HR3 HR4 hl3 hl4
  go_wp2_with (first
    | ((with_reducible refine load_agg_w (f := oV) (l := [slO qc1 T.cls.length jc1, slO qm1 T.moves.length jm1, slO qf1 T.fin.length jf1, slO qe1 T.ends.length je1]) (C := #[.slice qc1 T.cls.length jc1, .slice qm1 T.moves.length jm1, .slice qf1 T.fin.length jf1, .slice qe1 T.ends.length je1]) aggTr (.tmp 6) ?_ ?_ n6 0 ?_ HR6.out.at rfl ?_); rfl; rfl; rfl)
    | ((with_reducible refine load_agg_w (f := oV) (l := [slO qc2 T.cls.length jc2, slO qm2 T.moves.length jm2, slO qf2 T.fin.length jf2, slO qe2 T.ends.length je2]) (C := #[.slice qc2 T.cls.length jc2, .slice qm2 T.moves.length jm2, .slice qf2 T.fin.length jf2, .slice qe2 T.ends.length je2]) aggTr (.tmp 8) ?_ ?_ n8 0 ?_ HR8.out.at rfl ?_); rfl; rfl; rfl))
  refine (rSame X7 _ _ T HT1.out HT2.out hsm.out).mono ?_
  rintro e X8 ⟨rfl, hb⟩
  have hBx := hB.trans (hb.mono hB.size)
  clear hb HR6 HR8 HT1 HT2
  go_wp2
  go_ret
  exact ⟨by simp, hBx⟩
end Go.Proofs.YtgflelodpcgmbaaGreatDoor
