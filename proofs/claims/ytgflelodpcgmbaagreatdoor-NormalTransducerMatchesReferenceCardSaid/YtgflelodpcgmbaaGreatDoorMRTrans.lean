/- univocalref25.Transducer. -/
import Derived.Test.YtgflelodpcgmbaaGreatDoorMTrB
import Derived.Test.YtgflelodpcgmbaaGreatDoorMNTrans
namespace Go.Proofs.YtgflelodpcgmbaaGreatDoor
open Go Go.RowKit Mem
set_option maxRecDepth 100000

set_option maxHeartbeats 32000000 in
theorem rTransducer (w : World) (N : NZ) (pc pr pe : Option Addr) (kc kr ke : Nat) (hv : NzAt w (.agg #[.slice pc N.cls.length kc, .slice pr N.rows.length kr, .slice pe N.ends.length ke]) N) :
    Calls Tryz.prog 23 #[.agg #[.slice pc N.cls.length kc, .slice pr N.rows.length kr, .slice pe N.ends.length ke]] w fun e w' => TrPost N e w' ∧ Below w.heap.size w w' := by
  have HV := Lib.hid hv
  have HE : Hid (Rd Value.bool w (.slice pe N.ends.length ke) N.ends ∧ RdK 4 clL w (.slice pc N.cls.length kc) N.cls ∧ RdR w (.slice pr N.rows.length kr) N.rows) := Lib.hid (by
    obtain ⟨vc, vr, ve, he, h1, h2, h3⟩ := hv
    obtain ⟨rfl, rfl, rfl⟩ : .slice pc N.cls.length kc = vc ∧ .slice pr N.rows.length kr = vr ∧ .slice pe N.ends.length ke = ve := by
      have := congrArg (fun v => match v with | Value.agg a => a.toList | _ => []) he
      simpa using this
    exact ⟨h3, h1, h2⟩)
  clear hv
  go_enter Tryz.func23, Tryz.ntmps23
  go_upto_region 1 with (fail)
  obtain ⟨W, hW, hB, hs, g0, g1⟩ : ∃ W, ((w.alloc (.cells #[.slice pc N.cls.length kc, .slice pr N.rows.length kr, .slice pe N.ends.length ke] 26)).alloc (.cells #[.slice none 0 0, .slice none 0 0, .slice none 0 0, .slice none 0 0] 53)) = W ∧ Below w.heap.size w W ∧ W.heap.size = w.heap.size + 2 ∧ W.heap[w.heap.size]? = some (.cells #[.slice pc N.cls.length kc, .slice pr N.rows.length kr, .slice pe N.ends.length ke] 26 (0, 0)) ∧ W.heap[w.heap.size + 1]? = some (.cells #[.slice none 0 0, .slice none 0 0, .slice none 0 0, .slice none 0 0] 53 (0, 0)) := by
    refine ⟨_, rfl, below_al (below_al (Below.refl _ _) (Nat.le_refl _) _) (Nat.le_refl _) _, by simp, ?_, ?_⟩
    all_goals repeat (first | (refine heap_new' _ _ _ ?_; (simp; done)) | (refine (Below.heap_alloc _ _ _ ?_).trans ?_; · (simp <;> omega)))
  rw [hW]
  clear hW
  have HC : Hid (∀ X : World, Below W.heap.size W X → X.cell? ⟨w.heap.size, 0, none⟩ = some (.slice pc N.cls.length kc) ∧ X.cell? ⟨w.heap.size, 1, none⟩ = some (.slice pr N.rows.length kr) ∧ X.cell? ⟨w.heap.size, 2, none⟩ = some (.slice pe N.ends.length ke) ∧ Row oV X (w.heap.size + 1) 53 [on, on, on, on] ∧ Rd Value.bool X (.slice pe N.ends.length ke) N.ends ∧ RdK 4 clL X (.slice pc N.cls.length kc) N.cls ∧ RdR X (.slice pr N.rows.length kr) N.rows ∧ Below w.heap.size w X) := Lib.hid fun X hX => by
    have h0 := (hX.block w.heap.size (by omega)).trans g0
    have hw := hB.trans (hX.mono hB.size)
    refine ⟨?_, ?_, ?_, (hX.block (w.heap.size + 1) (by omega)).trans g1, HE.out.1.below hw, HE.out.2.1.below hw, HE.out.2.2.below hw, hw⟩ <;> (unfold World.cell?; rw [h0]; rfl)
  have hBW := Lib.hid hB
  have hsz := Lib.hid hs
  clear g0 g1 hs
  obtain ⟨c0, c1, c2, _⟩ := HC.out W (Below.refl _ _)
  go_wp2_with fail
  refine (rValid W _ N (HV.out.below hB)).mono ?_
  rintro e W1 ⟨rfl, hX1⟩
  clear c0 c1 c2
  obtain ⟨c0, c1, c2, hz, _, _, _, hw⟩ := HC.out W1 hX1
  cases hval : N.valid with
  | false =>
    have ht : Hid (N.trn = ⟨[], [], [], []⟩) := Lib.hid (by unfold NZ.trn; rw [hval]; rfl)
    replace hval := Lib.hid hval
    clear c0 c1 c2
    go_wp2_with (first
      | ((with_reducible refine store_agg (f := oV) (l := [on, on, on, on]) (l' := [on, on, on, on]) (t := 53) (C := #[.slice none 0 0, .slice none 0 0, .slice none 0 0, .slice none 0 0]) aggTr (.tmp 2) (.tmp 14) ?_ ?_ (w.heap.size + 1) ?_ ?_ ?_ hz ?_ oV_one ?_); rfl; rfl; rfl; rfl; rfl; rfl; (intro W2 hs2 hG2 hz2)))
    refine bodyPost_ret (v := .tuple #[.agg #[.slice none 0 0, .slice none 0 0, .slice none 0 0, .slice none 0 0], .int .i64 1]) (results_agg2 (f := oV) (l := [on, on, on, on]) (t := 3) rfl _ aggTr (w.heap.size + 1) 0 rfl hs2.at) rfl ?_
    refine ⟨⟨_, _, rfl, by rw [hval.out]; rfl, ?_⟩, hw.grown hG2 hw.size (fun k e => by cases e; omega)⟩
    rw [ht.out]
    exact ⟨_, _, _, _, rfl, .inl ⟨none, rfl, rfl⟩, .inl ⟨none, rfl, rfl⟩, .inl ⟨none, rfl, rfl⟩, .inl ⟨none, rfl, rfl⟩⟩
  | true =>
    have ht : Hid (N.trn = ⟨N.cls, N.rows.map fun r => r.map Ce.mv, N.ends, N.ends.map fun _ => []⟩) := Lib.hid (by unfold NZ.trn; rw [if_pos hval])
    have hvi := (valid_iff N).1 hval
    have hcl : 1 ≤ N.cls.length ∧ N.cls.length ≤ 256 := by
      refine ⟨?_, hvi.1.1⟩
      have := hvi.2.2.1
      cases hc : N.cls with
      | nil => rw [hc] at this; cases this
      | cons a l => simp
    have hrl : 1 ≤ N.rows.length ∧ N.rows.length ≤ 64 := ⟨hvi.1.2.1, hvi.1.2.2.1⟩
    have hel : Hid (N.ends.length = N.rows.length) := Lib.hid hvi.1.2.2.2
    have hel2 : 1 ≤ N.ends.length ∧ N.ends.length ≤ 64 := by have := hel.out; omega
    have hrow : Hid (∀ k (h : k < N.rows.length), N.rows[k].length = N.cls.length) := Lib.hid fun k h => (hvi.2.2.2.2 _ (List.getElem_mem h)).1
    replace hval := Lib.hid hval
    clear hvi hz
    replace hB := Lib.hid hB
    clear c0 c1 c2 hw
    have hZ4 : Row oV (W1.alloc (.cells #[.slice none 0 0, .slice none 0 0, .slice none 0 0, .slice none 0 0] 53)) W1.heap.size 53 [on, on, on, on] := Row.new _ _ rfl
    have hb4 := below_al (Below.refl W1.heap.size W1) (Nat.le_refl _) (.cells #[.slice none 0 0, .slice none 0 0, .slice none 0 0, .slice none 0 0] 53)
    go_upto_region 4 with (((with_reducible refine store_agg (f := oV) (l := [on, on, on, on]) (l' := [on, on, on, on]) (t := 53) (C := #[.slice none 0 0, .slice none 0 0, .slice none 0 0, .slice none 0 0]) aggTr (.tmp 4) (.tmp 15) ?_ ?_ W1.heap.size ?_ ?_ ?_ hZ4 ?_ oV_one ?_); rfl; rfl; rfl; rfl; rfl; rfl; (intro X0 hs4 hG4 hz4)))
    have hX0 : Below W1.heap.size W1 X0 := below_row (Below.refl W1.heap.size W1) hG4
    have hT0 : TrB X0 W1.heap.size W1.heap.size on on on on [] [] [] [] [] := ⟨hs4, OwnK.nil _ _ _, Own.nil _ _ _, ⟨rfl, fun i h => by cases h⟩, Own.nil _ _ _, Lvl.nil _ _, hX0.size⟩
    rw [put_none]
    clear hZ4 hb4 hs4 hG4 hz4
    obtain ⟨B, hB0⟩ : ∃ B, B = W1.heap.size := ⟨_, rfl⟩
    rw [← hB0] at hT0 hX0 ⊢
    have HG : Hid (∀ X : World, Below B W1 X → X.cell? ⟨w.heap.size, 0, none⟩ = some (.slice pc N.cls.length kc) ∧ X.cell? ⟨w.heap.size, 1, none⟩ = some (.slice pr N.rows.length kr) ∧ X.cell? ⟨w.heap.size, 2, none⟩ = some (.slice pe N.ends.length ke) ∧ Row oV X (w.heap.size + 1) 53 [on, on, on, on] ∧ Rd Value.bool X (.slice pe N.ends.length ke) N.ends ∧ RdK 4 clL X (.slice pc N.cls.length kc) N.cls ∧ RdR X (.slice pr N.rows.length kr) N.rows ∧ Below w.heap.size w X) := Lib.hid fun X hX => by
      rw [hB0] at hX
      exact HC.out X (hX1.trans (hX.mono hX1.size))
    have hlt2 : w.heap.size + 1 < B := by have := hX1.size; have := hsz.out; omega
    replace hT0 := Lib.hid hT0
    replace hX0 := Lib.hid hX0
    clear HC HE HV hBW hsz hX1 hB hB0
    go_upto_region 5 with (fail)
    go_loopw [5] (fun s5 wr => ∃ (k : Nat) (qc : Option Addr) (jc : Nat), k ≤ N.cls.length ∧ s5 = .int .i64 k ∧ Hid (TrB wr B B (slO qc k jc) on on on (N.cls.take k) [] [] [] []) ∧ Below B W1 wr) (fun i _ => N.cls.length - (intOf i).toNat)
    case atStart => exact ⟨0, none, 0, by omega, rfl, hT0, hX0.out⟩
    case round =>
      clear hT0 hX0
      obtain ⟨k, qc, jc, hk, rfl, HT, hX⟩ := hrel
      obtain ⟨c0, c1, c2, hz, hE, hC, hR, hw⟩ := HG.out wr hX
      by_cases hlt : k < N.cls.length
      · have hq : (k : Int) < (N.cls.length : Int) := by omega
        obtain ⟨cb, co, rfl, hA, hcap, lcb⟩ := hC.elem k hlt
        have hcat : Hid (N.cls.take k ++ [N.cls[k]'hlt] = N.cls.take (k + 1)) := Lib.hid (List.take_succ_eq_append_getElem hlt).symm
        have hlc : Hid ((N.cls.take k).length = k) := Lib.hid (by rw [List.length_take]; omega)
        have hlc2 : Hid ((N.cls.take (k + 1)).length = k + 1) := Lib.hid (by rw [List.length_take]; omega)
        have HA : Hid (∀ X, Below wr.heap.size wr X → At oV X cb (co + k * 4) (clL (N.cls[k]'hlt)) ∧ X.cell? ⟨w.heap.size, 0, none⟩ = some (.slice (some ⟨cb, co, none⟩) N.cls.length kc)) := Lib.hid fun X h => ⟨hA.below h lcb, (HG.out X (hX.trans (h.mono HT.out.lo))).1⟩
        have hTd := Lib.hid HT.out.drew
        have hbd : Below wr.heap.size wr wr.drew := (Below.refl _ _).drew
        have hXd := hX.drew
        have HCE : Hid (∀ X, Below B W1 X → At oV X cb (co + k * 4) (clL (N.cls[k]'hlt))) := Lib.hid fun X h => by
          obtain ⟨b2, o2, he2, hA2, _, _⟩ := (HG.out X h).2.2.2.2.2.1.elem k hlt
          cases he2
          exact hA2
        clear HA hA hE hC hR hz c1 c2 hbd
        generalize N.cls[k]'hlt = c at *
        go_upto_region 7 with (fail)
        refine region_headsT (S := fun X => Row oV X B 53 [slO qc k jc, on, on, on] ∧ Below B W1 X) 9 rfl (by kernel_rfl) ⟨hTd.out.box, hXd⟩ fun hS => ?_
        refine headsT_takeD (i := 0) (d := 23) (v := .pointer (some ⟨B, 0, none⟩)) (by kernel_rfl) rfl rfl (by omega) (by kernel_rfl) (by kernel_rfl) (fun c a w h => h) (yieldsIf_op rfl (fun w => by first | rfl | kernel_rfl | (go_simp; done))) hS ?_
        simp only [List.setIfInBounds_toArray, List.set_cons_succ, List.set_cons_zero]
        refine headsT_takeD (i := 1) (d := 24) (v := .slice qc k jc) (by kernel_rfl) rfl rfl (by omega) (by kernel_rfl) (by kernel_rfl) (fun c a w h => h) (.inl ⟨by first | rfl | kernel_rfl, fun W' h => by have q2 : W'.cell? ⟨B, 0, none⟩ = some (.slice qc k jc) := (by rw [h.1.cell?]; rfl); go_simp⟩) hS ?_
        simp only [List.setIfInBounds_toArray, List.set_cons_succ, List.set_cons_zero]
        refine headsT_takeD (i := 2) (d := 25) (v := .pointer (some ⟨w.heap.size, 0, none⟩)) (by kernel_rfl) rfl rfl (by omega) (by kernel_rfl) (by kernel_rfl) (fun c a w h => h) (yieldsIf_op rfl (fun w => by first | rfl | kernel_rfl | (go_simp; done))) hS ?_
        simp only [List.setIfInBounds_toArray, List.set_cons_succ, List.set_cons_zero]
        refine headsT_takeD (i := 3) (d := 26) (v := .slice (some ⟨cb, co, none⟩) N.cls.length kc) (by kernel_rfl) rfl rfl (by omega) (by kernel_rfl) (by kernel_rfl) (fun c a w h => h) (.inl ⟨by first | rfl | kernel_rfl, fun W' h => by have q2 := (HG.out W' h.2).1; go_simp⟩) hS ?_
        simp only [List.setIfInBounds_toArray, List.set_cons_succ, List.set_cons_zero]
        refine headsT_takeD (i := 4) (d := 27) (v := .int .i64 k) (by kernel_rfl) rfl rfl (by omega) (by kernel_rfl) (by kernel_rfl) (fun c a w h => h) (yieldsIf_op rfl (fun w => by first | rfl | kernel_rfl | (go_simp; done))) hS ?_
        simp only [List.setIfInBounds_toArray, List.set_cons_succ, List.set_cons_zero]
        refine headsT_takeD (i := 5) (d := 28) (v := .pointer (some ⟨cb, co + k * 4, none⟩)) (by kernel_rfl) rfl rfl (by omega) (by kernel_rfl) (by kernel_rfl) (fun c a w h => h) (yieldsIf_op rfl (fun w => by go_simp)) hS ?_
        simp only [List.setIfInBounds_toArray, List.set_cons_succ, List.set_cons_zero]
        refine headsT_takeD (i := 6) (d := 29) (v := .agg (clA c)) (by kernel_rfl) rfl rfl (by omega) (by kernel_rfl) (by kernel_rfl) (fun c a w h => h) (yieldsIf_load (f := oV) (l := clL c) aggCl (.tmp 28) rfl cb (co + k * 4) rfl (fun W' h => HCE.out W' h.2) rfl rfl) hS ?_
        simp only [List.setIfInBounds_toArray, List.set_cons_succ, List.set_cons_zero]
        refine headsT_ready (rs := [7]) (by kernel_rfl) (by simp) (AllReadyT.cons (by omega) rfl (fun K' hK => ?_) AllReadyT.nil)
        have hba := below_al (Below.refl wr.drew.heap.size wr.drew) (Nat.le_refl _) (.cells (clA c) 80)
        refine valueD (d := 30) (v := .slice (some ⟨wr.drew.heap.size, 0, none⟩) 1 1) (w' := wr.drew.alloc (.cells (clA c) 80)) rfl rfl (by first | rfl | kernel_rfl | (simp [execOp, go_sem]; done)) ?_
        refine hK.out _ _ ⟨hS.1.below hba hS.1.lt, hS.2.trans (hba.mono hTd.out.lo)⟩ fun _ => ?_
        clear hK hba
        simp only [List.setIfInBounds_toArray, List.set_cons_succ, List.set_cons_zero]
        refine headsT_ready (rs := [8]) (by kernel_rfl) (by simp) (AllReadyT.cons (by omega) rfl (fun K' hK => ?_) AllReadyT.nil)
        refine step_append_k (w := wr.drew) (l := N.cls.take k) (v := .slice qc k jc) eltCl (by decide) clL_len (.tmp 24) (.tmp 30) 22 rfl rfl rfl rfl hTd.out.c c (clA c) rfl 80 rfl (by rw [hlc.out]; omega) (by rw [hlc.out]; omega) hTd.out.lo (N.cls.take (k + 1)) hcat.out ?_
        intro p6 k6 w6 hO6 hG6
        rw [hlc2.out] at hO6 ⊢
        have hF := hTd.out.clsMore _ hO6 hG6
        have hB6 : Below B W1 w6 := (hXd.trans (below_al (Below.refl B wr.drew) hTd.out.lo (.cells (clA c) 80))).grown hG6 (Nat.le_trans hTd.out.lo (by simp)) (fun j hj => (hTd.out.c.lt j hj).1)
        have hB7 := below_set hB6 (b := B) 0 (Nat.le_refl _) (.slice p6 (k + 1) k6)
        refine hK.out _ _ ⟨hF.1, hB6⟩ fun _ => ?_
        clear hK hS hB6
        simp only [Act.put, List.setIfInBounds_toArray]
        refine headsT_tail (by kernel_rfl) ?_
        simp only [List.drop]
        have f2 := hF.1.frozen 0
        have g2 : w6.cell? ⟨B, 0, none⟩ = some (.slice qc k jc) := by rw [hF.1.cell?]; rfl
        have HF := Lib.hid hF.2
        clear hF hO6 hG6 hTd
        go_wp2_with fail
        go_roundw
        case rel => exact ⟨k + 1, p6, k6, by omega, by go_num, HF, hB7⟩
        case measure => simp [intOf] <;> omega
      · obtain rfl : k = N.cls.length := by omega
        have hq : ¬ (N.cls.length : Int) < (N.cls.length : Int) := by omega
        rw [List.take_of_length_le (Nat.le_refl _)] at HT
        clear hE hC hR hz
        go_upto_region 8 with (fail)
        go_upto_region 9 with (fail)
        clear c0 c1 c2 hq
        have hT9 := HT
        have hX9 := Lib.hid hX
        go_loopw [6] (fun s6 wr => ∃ (k : Nat) (pm qf qe : Option Addr) (km jf je : Nat) (us : List OC), k ≤ N.rows.length ∧ s6 = .int .i64 k ∧ Hid (us.length = k ∧ TrB wr B B (slO qc N.cls.length jc) (slO pm k km) (slO qf k jf) (slO qe k je) N.cls us ((N.rows.take k).map fun r => r.map Ce.mv) (N.ends.take k) (List.replicate k [])) ∧ Below B W1 wr) (fun i _ => N.rows.length - (intOf i).toNat)
        case atStart => exact ⟨0, none, none, none, 0, 0, 0, [], by omega, rfl, Lib.hid ⟨rfl, hT9.out⟩, hX9.out⟩
        case round =>
          clear HT hT9 hX9 hX
          obtain ⟨k, pm, qf, qe, km, jf, je, us, hk, rfl, HT, hX⟩ := hrel
          by_cases hlt : k < N.rows.length
          · have hq : (k : Int) < (N.rows.length : Int) := by omega
            obtain ⟨c0, c1, c2, hz, hE, hC, hR, hw⟩ := HG.out wr hX
            obtain ⟨rb, ro, u, rfl, hu, hru, _, lrb⟩ := hR.elem k hlt
            obtain ⟨pu, ku, rfl⟩ := hru.slice
            have hrn := hrow.out k hlt
            have hmt : Hid ((N.rows.take (k + 1)).map (fun r => r.map Ce.mv) = (N.rows.take k).map (fun r => r.map Ce.mv) ++ [(N.rows[k]'hlt).map Ce.mv]) := Lib.hid (by rw [List.take_succ_eq_append_getElem hlt, List.map_append]; rfl)
            have hke : k < N.ends.length := by have := hel.out; omega
            obtain ⟨be, oe, rfl, hEat⟩ : ∃ b o, pe = some ⟨b, o, none⟩ ∧ ∀ X, Below B W1 X → X.cell? ⟨b, o + k, none⟩ = some (.bool (N.ends[k]'hke)) := by
              rcases hE with ⟨_, _, h0⟩ | ⟨b, o, cap, h1, _, ha, _⟩
              · rw [h0] at hke; simp at hke
              · cases h1
                refine ⟨b, o, rfl, fun X h => ?_⟩
                rcases (HG.out X h).2.2.2.2.1 with ⟨_, _, h0⟩ | ⟨b2, o2, cap2, h1, _, ha2, _⟩
                · rw [h0] at hke; simp at hke
                · cases h1; exact (ha2 k hke).trans (by rw [List.getElem?_eq_getElem hke]; rfl)
            have hcatE : Hid (N.ends.take k ++ [N.ends[k]'hke] = N.ends.take (k + 1)) := Lib.hid (List.take_succ_eq_append_getElem hke).symm
            have hlE : Hid ((N.ends.take k).length = k) := Lib.hid (by rw [List.length_take]; omega)
            have hlE2 : Hid ((N.ends.take (k + 1)).length = k + 1) := Lib.hid (by rw [List.length_take]; omega)
            replace hEat := Lib.hid hEat
            generalize N.ends[k]'hke = eb at *
            have HRW : Hid (∀ X, Below wr.heap.size wr X → X.cell? ⟨rb, ro + k, none⟩ = some (.slice pu (N.rows[k]'hlt).length ku) ∧ RdK 3 ceL X (.slice pu (N.rows[k]'hlt).length ku) (N.rows[k]'hlt)) := Lib.hid fun X h => ⟨(h.cell (p := ⟨rb, ro + k, none⟩) lrb).trans hu, hru.below h⟩
            generalize N.rows[k]'hlt = row at *
            have hrn2 : row.length ≤ 256 := by omega
            replace hrn := Lib.hid hrn
            have hR0 := Lib.hid (RowAt.start wr wr.heap.size (Nat.le_refl _))
            have hb0 := Lib.hid (below_al (Below.refl wr.heap.size wr) (Nat.le_refl _) (.cells #[] 98))
            clear hE hC hR hz hw hu hru lrb
            go_upto_region 12 with (fail)
            go_upto_region 13 with (fail)
            clear c0 c1 c2
            generalize (wr.alloc (.cells #[] 98)) = Wm at *
            obtain ⟨Wk, hz0⟩ : ∃ Z, Z = wr := ⟨_, rfl⟩
            subst hz0
            obtain ⟨bk, hbk⟩ : ∃ b, b = Wk.heap.size := ⟨_, rfl⟩
            rw [← hbk] at hR0 hb0 HRW ⊢
            have hlo := HT.out.2.lo
            rw [← hbk] at hlo
            have HGk : Hid (∀ X, Below bk Wk X → X.cell? ⟨w.heap.size, 1, none⟩ = some (.slice (some ⟨rb, ro, none⟩) N.rows.length kr) ∧ TrB X B B (slO qc N.cls.length jc) (slO pm k km) (slO qf k jf) (slO qe k je) N.cls us ((N.rows.take k).map fun r => r.map Ce.mv) (N.ends.take k) (List.replicate k []) ∧ Below B W1 X) := Lib.hid fun X h => by
              have h2 : Below B W1 X := hX.trans (h.mono hlo)
              have h3 := h
              rw [hbk] at h3
              exact ⟨(HG.out X h2).2.1, HT.out.2.below' h3, h2⟩
            have hlen := Lib.hid HT.out.1
            clear HT hX
            replace hbk := Lib.hid hbk
            go_loopw [7, 8] (fun s7 s8 wq => ∃ (m : Nat) (p7 : Option Addr) (c7 : Nat), m ≤ row.length ∧ s8 = .int .i64 m ∧ s7 = .slice p7 m c7 ∧ Hid (RowAt wq bk (slO p7 m c7) ((row.take m).map Ce.mv)) ∧ Below bk Wk wq) (fun _ i _ => row.length - (intOf i).toNat)
            case atStart => exact ⟨0, _, 0, by omega, rfl, rfl, hR0, hb0.out⟩
            case round =>
              clear hR0 hb0
              obtain ⟨m, p7, c7, hm, rfl, rfl, HX, hY⟩ := hrel
              obtain ⟨c1, hTk, hX2⟩ := HGk.out wr hY
              obtain ⟨hu, hru⟩ := HRW.out wr hY
              by_cases hml : m < row.length
              · have hq2 : (m : Int) < (row.length : Int) := by omega
                obtain ⟨bc, oc, rfl, hA, hcap, lbc⟩ := hru.elem m hml
                have hmr : Hid ((row.take (m + 1)).map Ce.mv = (row.take m).map Ce.mv ++ [(row[m]'hml).mv]) := Lib.hid (by rw [List.take_succ_eq_append_getElem hml, List.map_append]; rfl)
                have hml1 : Hid (((row.take m).map Ce.mv).length = m) := Lib.hid (by rw [List.length_map, List.length_take]; omega)
                generalize row[m]'hml = c at *
                have hZ9 : Row oV (wr.alloc (.cells #[.int .i64 0, .int .i64 0, .int .u8 0] 75)) wr.heap.size 75 [oi 0, oi 0, ⟨.int .u8 0, rfl⟩] := Row.new _ _ rfl
                replace hTk := Lib.hid hTk
                go_upto_region 16 with (first
                  | ((with_reducible refine load_agg (f := oV) (l := ceL c) (C := ceA c) aggCe (.tmp 57) ?_ ?_ bc (oc + m * 3) ?_ hA rfl ?_); rfl; rfl; rfl)
                  | ((with_reducible refine store_agg (f := oV) (l := [oi 0, oi 0, ⟨.int .u8 0, rfl⟩]) (l' := ceL c) (t := 75) (C := ceA c) aggCe (.tmp 9) (.tmp 58) ?_ ?_ wr.heap.size ?_ ?_ ?_ hZ9 ?_ oV_one ?_); rfl; rfl; rfl; rfl; rfl; rfl; (intro X1 hs9 hG9 hz9)))
                have hb9 := below_row (Below.refl wr.heap.size wr) hG9
                rw [put_none]
                clear hZ9 hG9 hz9 hA hru hu c1
                have t0 : X1.cell? ⟨wr.heap.size, 0, none⟩ = some (.int .i64 c.tgt) := by rw [hs9.cell?]; rfl
                have hZ10 : Row oV (X1.alloc (.cells #[.int .i64 0, .slice none 0 0] 98)) X1.heap.size 98 [oi 0, on] := Row.new _ _ rfl
                go_upto_region 17 with ((with_reducible refine store_agg (f := oV) (l := [oi 0, on]) (l' := [oi c.tgt, on]) (t := 98) (C := #[.int .i64 c.tgt, .slice none 0 0]) aggMv (.tmp 10) (.tmp 61) ?_ ?_ X1.heap.size ?_ ?_ ?_ hZ10 ?_ oV_one ?_); rfl; rfl; rfl; rfl; rfl; rfl; (intro X2 hs10 hG10 hz10))
                have hb10 := below_row (Below.refl X1.heap.size X1) hG10
                rw [put_none]
                have hs92 := hs9.below hb10 hs9.lt
                have hbX : Below wr.heap.size wr X2 := hb9.trans (hb10.mono hb9.size)
                have hn10 : wr.heap.size ≤ X1.heap.size := hb9.size
                have hl9 := hs92.lt
                clear hZ10 hG10 hz10 hs9 hb9 hb10 t0
                have ca : X2.cell? ⟨wr.heap.size, 1, none⟩ = some (.int .i64 c.act) := by rw [hs92.cell?]; rfl
                have cb : X2.cell? ⟨wr.heap.size, 2, none⟩ = some (.int .u8 (c.b.toNat : Int)) := by rw [hs92.cell?]; rfl
                obtain ⟨n10, hn10e⟩ : ∃ b, b = X1.heap.size := ⟨_, rfl⟩
                rw [← hn10e] at hs10 hn10 ⊢
                clear hn10e hs92
                obtain ⟨WR, hWR⟩ : ∃ b, b = wr.heap.size := ⟨_, rfl⟩
                rw [← hWR] at hbX hn10 hl9 ca cb ⊢
                have hWb : bk ≤ WR := by rw [hWR, hbk.out]; exact hY.size
                -- the row before
                have hFin : Hid (∀ (X : World) (u : OC) (t : Int), Below WR wr X → Row oV X n10 98 [oi t, u] → OwnK 2 piL X bk 100 (oV u) c.mv.out → t = c.mv.tgt → ∃ xs : List (Int × OC), xs.length = m ∧ OwnK 2 mvL X bk 98 (.slice p7 m c7) xs ∧ bk ≤ X.heap.size ∧
                    (∀ (p3 : Option Addr) (c3 : Nat) (w3 : World) (o : Obj), OwnK 2 mvL w3 bk 98 (.slice p3 (m + 1) c3) (xs ++ [(t, u)]) → (X.alloc o).grownBy w3 (Value.slice p7 m c7).ownBlock → Below bk X w3 → RowAt w3 bk (slO p3 (m + 1) c3) ((row.take (m + 1)).map Ce.mv) ∧ Below bk Wk w3)) := Lib.hid fun X u t hbx hr hu ht => by
                  have hbx2 := hbx
                  rw [hWR] at hbx2
                  obtain ⟨xs, h1, h2, h3⟩ := HX.out.below' hbx2
                  have h1' : xs.length = m := h1.trans hml1.out
                  refine ⟨xs, h1', h2, (by have := hbx.size; omega), fun p3 c3 w3 o hO hG hb3 => ⟨?_, (hY.trans (hbx.mono hWb)).trans hb3⟩⟩
                  rw [hmr.out]
                  exact RowAt.more (u := slO p7 m c7) h1 h3 h2 o (x := (t, u)) hO hG ht hu
                clear HX hTk
                replace hWR := Lib.hid hWR
                by_cases a0 : c.act = 0
                · have htg : c.mv.tgt = c.tgt := by unfold Ce.mv; exact if_neg (by omega)
                  have hot : c.mv.out = [⟨true, 0⟩] := by unfold Ce.mv; exact if_pos a0
                  have hR3 := hs10.alloc (.cells #[.bool true, .int .u8 0] 100)
                  have e1 : (X2.alloc (.cells #[.bool true, .int .u8 0] 100)).cell? ⟨n10, 1, none⟩ = some (.slice none 0 0) := by rw [hR3.cell?]; rfl
                  have f1 := hR3.frozen 1
                  have hP := piece_new X2 bk ⟨true, 0⟩ (by omega)
                  have hY3 := hbX.alloc (by have := hbX.size; have := hWR.out; omega) (.cells #[.bool true, .int .u8 0] 100)
                  have hg3 := grown_one (X2.alloc (.cells #[.bool true, .int .u8 0] 100)) n10 1 (.slice (some ⟨X2.heap.size, 0, none⟩) 1 1)
                  have hz3 : Hid (∀ X, X = (X2.alloc (.cells #[.bool true, .int .u8 0] 100)).setCell ⟨n10, 1, none⟩ (.slice (some ⟨X2.heap.size, 0, none⟩) 1 1) → Row oV X n10 98 [oi c.tgt, slO (some ⟨X2.heap.size, 0, none⟩) 1 1] ∧ OwnK 2 piL X bk 100 (oV (slO (some ⟨X2.heap.size, 0, none⟩) 1 1)) c.mv.out ∧ Below WR wr X) := Lib.hid fun X hXe => by
                    subst hXe
                    refine ⟨hR3.set 1 (slO (some ⟨X2.heap.size, 0, none⟩) 1 1), ?_, below_set hY3 (b := n10) 1 hn10 _⟩
                    rw [hot]
                    exact hP.offT hg3 (Row_isT hR3) (by decide)
                  clear hR3 hP hY3 hg3 hot hbX hl9
                  replace htg := Lib.hid htg.symm
                  go_upto_region 24 with (fail)
                  obtain ⟨z1, z2, z3⟩ := hz3.out _ rfl
                  generalize ((X2.alloc (.cells #[.bool true, .int .u8 0] 100)).setCell ⟨n10, 1, none⟩ (.slice (some ⟨X2.heap.size, 0, none⟩) 1 1)) = X3 at *
                  clear hz3 e1 f1 ca cb
                  obtain ⟨xs, hx1, hx2, hx3, hx4⟩ := hFin.out X3 (slO (some ⟨X2.heap.size, 0, none⟩) 1 1) c.tgt z3 z1 z2 htg.out
                  have hxl : Hid ((xs ++ [((c.tgt : Int), (slO (some ⟨X2.heap.size, 0, none⟩) 1 1))]).length = m + 1) := Lib.hid (by rw [List.length_append, hx1]; rfl)
                  replace hx4 := Lib.hid hx4
                  have hx5 : xs.length ≤ 256 := by omega
                  replace hx1 := Lib.hid hx1
                  have hr10 := z1
                  clear hFin
                  go_wp2_with (first
                    | ((with_reducible refine load_agg (f := oV) (l := [oi c.tgt, (slO (some ⟨X2.heap.size, 0, none⟩) 1 1)]) (C := #[.int .i64 c.tgt, .slice (some ⟨X2.heap.size, 0, none⟩) 1 1]) aggMv (.tmp 10) ?_ ?_ n10 0 ?_ hr10.at rfl ?_); rfl; rfl; rfl)
                    | (at_builtin; (with_reducible refine append_k eltMv (by decide) mvL_len (.tmp 79) (.tmp 81) ?_ ?_ ?_ hx2 (c.tgt, (slO (some ⟨X2.heap.size, 0, none⟩) 1 1)) #[.int .i64 c.tgt, .slice (some ⟨X2.heap.size, 0, none⟩) 1 1] ?_ 98 ?_ ?_ ?_ ?_ (xs ++ [(c.tgt, (slO (some ⟨X2.heap.size, 0, none⟩) 1 1))]) ?_ ?_); rfl; rfl; rfl; rfl; rfl; (omega); (omega); (exact hx3); rfl; (intro p3 c3 w3 hO6 hB6 hG6); (rw [hxl.out] at hO6 ⊢)))
                  obtain ⟨y1, y2⟩ := hx4.out p3 c3 w3 _ hO6 hG6 hB6
                  replace y1 := Lib.hid y1
                  clear hO6 hB6 hG6 hx2 hr10
                  go_roundw
                  case rel => exact ⟨m + 1, p3, c3, by omega, by go_num, rfl, y1, y2⟩
                  case measure => simp [intOf] <;> omega
                have a0' : (c.act == 0) = false := by simpa using a0
                by_cases a2 : c.act = 2
                · have htg : c.mv.tgt = c.tgt := by unfold Ce.mv; exact if_neg (by omega)
                  have hot : c.mv.out = [⟨false, c.b⟩] := by unfold Ce.mv; exact (if_neg a0).trans (if_pos a2)
                  have hR3 := hs10.alloc (.cells #[.bool false, .int .u8 (c.b.toNat : Int)] 100)
                  have e1 : (X2.alloc (.cells #[.bool false, .int .u8 (c.b.toNat : Int)] 100)).cell? ⟨n10, 1, none⟩ = some (.slice none 0 0) := by rw [hR3.cell?]; rfl
                  have f1 := hR3.frozen 1
                  have hP := piece_new X2 bk ⟨false, c.b⟩ (by omega)
                  have hY3 := hbX.alloc (by have := hbX.size; have := hWR.out; omega) (.cells #[.bool false, .int .u8 (c.b.toNat : Int)] 100)
                  have hg3 := grown_one (X2.alloc (.cells #[.bool false, .int .u8 (c.b.toNat : Int)] 100)) n10 1 (.slice (some ⟨X2.heap.size, 0, none⟩) 1 1)
                  have hz3 : Hid (∀ X, X = (X2.alloc (.cells #[.bool false, .int .u8 (c.b.toNat : Int)] 100)).setCell ⟨n10, 1, none⟩ (.slice (some ⟨X2.heap.size, 0, none⟩) 1 1) → Row oV X n10 98 [oi c.tgt, slO (some ⟨X2.heap.size, 0, none⟩) 1 1] ∧ OwnK 2 piL X bk 100 (oV (slO (some ⟨X2.heap.size, 0, none⟩) 1 1)) c.mv.out ∧ Below WR wr X) := Lib.hid fun X hXe => by
                    subst hXe
                    refine ⟨hR3.set 1 (slO (some ⟨X2.heap.size, 0, none⟩) 1 1), ?_, below_set hY3 (b := n10) 1 hn10 _⟩
                    rw [hot]
                    exact hP.offT hg3 (Row_isT hR3) (by decide)
                  clear hR3 hP hY3 hg3 hot hbX hl9
                  replace htg := Lib.hid htg.symm
                  go_upto_region 24 with (fail)
                  obtain ⟨z1, z2, z3⟩ := hz3.out _ rfl
                  generalize ((X2.alloc (.cells #[.bool false, .int .u8 (c.b.toNat : Int)] 100)).setCell ⟨n10, 1, none⟩ (.slice (some ⟨X2.heap.size, 0, none⟩) 1 1)) = X3 at *
                  clear hz3 e1 f1 ca cb
                  obtain ⟨xs, hx1, hx2, hx3, hx4⟩ := hFin.out X3 (slO (some ⟨X2.heap.size, 0, none⟩) 1 1) c.tgt z3 z1 z2 htg.out
                  have hxl : Hid ((xs ++ [((c.tgt : Int), (slO (some ⟨X2.heap.size, 0, none⟩) 1 1))]).length = m + 1) := Lib.hid (by rw [List.length_append, hx1]; rfl)
                  replace hx4 := Lib.hid hx4
                  have hx5 : xs.length ≤ 256 := by omega
                  replace hx1 := Lib.hid hx1
                  have hr10 := z1
                  clear hFin
                  go_wp2_with (first
                    | ((with_reducible refine load_agg (f := oV) (l := [oi c.tgt, (slO (some ⟨X2.heap.size, 0, none⟩) 1 1)]) (C := #[.int .i64 c.tgt, .slice (some ⟨X2.heap.size, 0, none⟩) 1 1]) aggMv (.tmp 10) ?_ ?_ n10 0 ?_ hr10.at rfl ?_); rfl; rfl; rfl)
                    | (at_builtin; (with_reducible refine append_k eltMv (by decide) mvL_len (.tmp 79) (.tmp 81) ?_ ?_ ?_ hx2 (c.tgt, (slO (some ⟨X2.heap.size, 0, none⟩) 1 1)) #[.int .i64 c.tgt, .slice (some ⟨X2.heap.size, 0, none⟩) 1 1] ?_ 98 ?_ ?_ ?_ ?_ (xs ++ [(c.tgt, (slO (some ⟨X2.heap.size, 0, none⟩) 1 1))]) ?_ ?_); rfl; rfl; rfl; rfl; rfl; (omega); (omega); (exact hx3); rfl; (intro p3 c3 w3 hO6 hB6 hG6); (rw [hxl.out] at hO6 ⊢)))
                  obtain ⟨y1, y2⟩ := hx4.out p3 c3 w3 _ hO6 hG6 hB6
                  replace y1 := Lib.hid y1
                  clear hO6 hB6 hG6 hx2 hr10
                  go_roundw
                  case rel => exact ⟨m + 1, p3, c3, by omega, by go_num, rfl, y1, y2⟩
                  case measure => simp [intOf] <;> omega
                have a2' : (c.act == 2) = false := by simpa using a2
                have hot : c.mv.out = [] := by unfold Ce.mv; exact (if_neg a0).trans (if_neg a2)
                by_cases a3 : c.act = 3
                · have htg : c.mv.tgt = -1 := by unfold Ce.mv; exact if_pos a3
                  have e1 : X2.cell? ⟨n10, 0, none⟩ = some (.int .i64 c.tgt) := by rw [hs10.cell?]; rfl
                  have f1 := hs10.frozen 0
                  have hz3 : Hid (∀ X, X = X2.setCell ⟨n10, 0, none⟩ (.int .i64 (-1)) → Row oV X n10 98 [oi (-1), on] ∧ OwnK 2 piL X bk 100 (oV on) c.mv.out ∧ Below WR wr X) := Lib.hid fun X hXe => by
                    subst hXe
                    refine ⟨hs10.set 0 (oi (-1)), ?_, below_set hbX (b := n10) 0 hn10 _⟩
                    rw [hot]
                    exact OwnK.nil _ _ _
                  clear hot hbX a0 a2
                  replace htg := Lib.hid htg.symm
                  go_upto_region 24 with (fail)
                  obtain ⟨z1, z2, z3⟩ := hz3.out _ rfl
                  generalize (X2.setCell ⟨n10, 0, none⟩ (.int .i64 (-1))) = X3 at *
                  clear hz3 e1 f1 ca cb
                  obtain ⟨xs, hx1, hx2, hx3, hx4⟩ := hFin.out X3 on (-1) z3 z1 z2 htg.out
                  have hxl : Hid ((xs ++ [(((-1) : Int), on)]).length = m + 1) := Lib.hid (by rw [List.length_append, hx1]; rfl)
                  replace hx4 := Lib.hid hx4
                  have hx5 : xs.length ≤ 256 := by omega
                  replace hx1 := Lib.hid hx1
                  have hr10 := z1
                  clear hFin
                  go_wp2_with (first
                    | ((with_reducible refine load_agg (f := oV) (l := [oi (-1), on]) (C := mvA ((-1), on)) aggMv (.tmp 10) ?_ ?_ n10 0 ?_ hr10.at rfl ?_); rfl; rfl; rfl)
                    | (at_builtin; (with_reducible refine append_k eltMv (by decide) mvL_len (.tmp 79) (.tmp 81) ?_ ?_ ?_ hx2 ((-1), on) (mvA ((-1), on)) ?_ 98 ?_ ?_ ?_ ?_ (xs ++ [((-1), on)]) ?_ ?_); rfl; rfl; rfl; rfl; rfl; (omega); (omega); (exact hx3); rfl; (intro p3 c3 w3 hO6 hB6 hG6); (rw [hxl.out] at hO6 ⊢)))
                  obtain ⟨y1, y2⟩ := hx4.out p3 c3 w3 _ hO6 hG6 hB6
                  replace y1 := Lib.hid y1
                  clear hO6 hB6 hG6 hx2 hr10
                  go_roundw
                  case rel => exact ⟨m + 1, p3, c3, by omega, by go_num, rfl, y1, y2⟩
                  case measure => simp [intOf] <;> omega
                · have a3' : (c.act == 3) = false := by simpa using a3
                  have htg : c.mv.tgt = c.tgt := by unfold Ce.mv; exact if_neg a3
                  have z2 : OwnK 2 piL X2 bk 100 (oV on) c.mv.out := by rw [hot]; exact OwnK.nil _ _ _
                  replace htg := Lib.hid htg.symm
                  clear hot a0 a2 a3
                  go_upto_region 24 with (fail)
                  clear ca cb
                  obtain ⟨xs, hx1, hx2, hx3, hx4⟩ := hFin.out X2 on c.tgt hbX hs10 z2 htg.out
                  have hxl : Hid ((xs ++ [((c.tgt : Int), on)]).length = m + 1) := Lib.hid (by rw [List.length_append, hx1]; rfl)
                  replace hx4 := Lib.hid hx4
                  have hx5 : xs.length ≤ 256 := by omega
                  replace hx1 := Lib.hid hx1
                  have hr10 := hs10
                  clear hFin
                  go_wp2_with (first
                    | ((with_reducible refine load_agg (f := oV) (l := [oi c.tgt, on]) (C := mvA (c.tgt, on)) aggMv (.tmp 10) ?_ ?_ n10 0 ?_ hr10.at rfl ?_); rfl; rfl; rfl)
                    | (at_builtin; (with_reducible refine append_k eltMv (by decide) mvL_len (.tmp 79) (.tmp 81) ?_ ?_ ?_ hx2 (c.tgt, on) (mvA (c.tgt, on)) ?_ 98 ?_ ?_ ?_ ?_ (xs ++ [(c.tgt, on)]) ?_ ?_); rfl; rfl; rfl; rfl; rfl; (omega); (omega); (exact hx3); rfl; (intro p3 c3 w3 hO6 hB6 hG6); (rw [hxl.out] at hO6 ⊢)))
                  obtain ⟨y1, y2⟩ := hx4.out p3 c3 w3 _ hO6 hG6 hB6
                  replace y1 := Lib.hid y1
                  clear hO6 hB6 hG6 hx2 hr10
                  go_roundw
                  case rel => exact ⟨m + 1, p3, c3, by omega, by go_num, rfl, y1, y2⟩
                  case measure => simp [intOf] <;> omega
              · obtain rfl : m = row.length := by omega
                have hq2 : ¬ (row.length : Int) < (row.length : Int) := by omega
                rw [List.take_of_length_le (Nat.le_refl _)] at HX
                have hu9 := Lib.hid (HX.out.mono hlo)
                have c9 : wr.cell? ⟨B, 1, none⟩ = some (.slice pm k km) := by rw [hTk.box.cell?]; rfl
                have hTo := hTk.o
                have hlo9 := hTk.lo
                replace hTk := Lib.hid hTk
                have huk : us.length ≤ 64 := by rw [hlen.out]; omega
                have hls : Hid ((us ++ [slO p7 row.length c7]).length = k + 1) := Lib.hid (by rw [List.length_append, hlen.out]; rfl)
                clear HX HGk HRW hY hru
                go_upto_region 26 with (at_builtin; (with_reducible refine append_one eltRows (.tmp 84) (.tmp 86) ?_ ?_ oV_one ?_ hTo (slO p7 row.length c7) _ ?_ _ ?_ ?_ ?_ ?_ (us ++ [slO p7 row.length c7]) ?_ ?_); rfl; rfl; rfl; rfl; rfl; (omega); (omega); (exact hlo9); rfl; (intro p3 c3 w3 hO4 hB4 hG4); (rw [hls.out] at hO4 ⊢); (have hMore := hTk.out.rowMore hu9.out _ hO4 hG4); (have e9 : w3.cell? ⟨B, 1, none⟩ = some (.slice pm k km) := by rw [hMore.1.cell?]; rfl); (have f9 := hMore.1.frozen 1))
                have hN := hMore.2
                have hX5 := below_set (hX2.trans hB4) (b := B) 1 (Nat.le_refl _) (.slice p3 (k + 1) c3)
                generalize (w3.setCell ⟨B, 1, none⟩ (.slice p3 (k + 1) c3)) = X5 at *
                have hTd := Lib.hid hN.drew
                have hXd := hX5.drew
                clear hMore e9 f9 hO4 hB4 hG4 c9 hTo hTk hu9 hX2 hlo9 hN hu hq2 c1
                have hqe : (k : Int) < (N.ends.length : Int) := by omega
                refine region_headsT (S := fun X => Row oV X B 53 [slO qc N.cls.length jc, slO p3 (k + 1) c3, slO qf k jf, slO qe k je] ∧ Below B W1 X) 9 rfl (by kernel_rfl) ⟨hTd.out.box, hXd⟩ fun hS => ?_
                refine headsT_takeD (i := 0) (d := 89) (v := .pointer (some ⟨B, 2, none⟩)) (by kernel_rfl) rfl rfl (by omega) (by kernel_rfl) (by kernel_rfl) (fun c a w h => h) (yieldsIf_op rfl (fun w => by first | rfl | kernel_rfl | (go_simp; done))) hS ?_
                simp only [List.setIfInBounds_toArray, List.set_cons_succ, List.set_cons_zero]
                refine headsT_takeD (i := 1) (d := 90) (v := .slice qf k jf) (by kernel_rfl) rfl rfl (by omega) (by kernel_rfl) (by kernel_rfl) (fun c a w h => h) (.inl ⟨by first | rfl | kernel_rfl, fun W' h => by have q2 : W'.cell? ⟨B, 2, none⟩ = some (.slice qf k jf) := (by rw [h.1.cell?]; rfl); go_simp⟩) hS ?_
                simp only [List.setIfInBounds_toArray, List.set_cons_succ, List.set_cons_zero]
                refine headsT_takeD (i := 2) (d := 91) (v := .pointer (some ⟨w.heap.size, 2, none⟩)) (by kernel_rfl) rfl rfl (by omega) (by kernel_rfl) (by kernel_rfl) (fun c a w h => h) (yieldsIf_op rfl (fun w => by first | rfl | kernel_rfl | (go_simp; done))) hS ?_
                simp only [List.setIfInBounds_toArray, List.set_cons_succ, List.set_cons_zero]
                refine headsT_takeD (i := 3) (d := 92) (v := .slice (some ⟨be, oe, none⟩) N.ends.length ke) (by kernel_rfl) rfl rfl (by omega) (by kernel_rfl) (by kernel_rfl) (fun c a w h => h) (.inl ⟨by first | rfl | kernel_rfl, fun W' h => by have q2 := (HG.out W' h.2).2.2.1; go_simp⟩) hS ?_
                simp only [List.setIfInBounds_toArray, List.set_cons_succ, List.set_cons_zero]
                refine headsT_takeD (i := 4) (d := 93) (v := .int .i64 k) (by kernel_rfl) rfl rfl (by omega) (by kernel_rfl) (by kernel_rfl) (fun c a w h => h) (yieldsIf_op rfl (fun w => by first | rfl | kernel_rfl | (go_simp; done))) hS ?_
                simp only [List.setIfInBounds_toArray, List.set_cons_succ, List.set_cons_zero]
                refine headsT_takeD (i := 5) (d := 94) (v := .pointer (some ⟨be, oe + k, none⟩)) (by kernel_rfl) rfl rfl (by omega) (by kernel_rfl) (by kernel_rfl) (fun c a w h => h) (yieldsIf_op rfl (fun w => by go_simp)) hS ?_
                simp only [List.setIfInBounds_toArray, List.set_cons_succ, List.set_cons_zero]
                refine headsT_takeD (i := 6) (d := 95) (v := .bool eb) (by kernel_rfl) rfl rfl (by omega) (by kernel_rfl) (by kernel_rfl) (fun c a w h => h) (.inl ⟨by first | rfl | kernel_rfl, fun W' h => by have q2 := hEat.out W' h.2; go_simp⟩) hS ?_
                simp only [List.setIfInBounds_toArray, List.set_cons_succ, List.set_cons_zero]
                refine headsT_ready (rs := [7]) (by kernel_rfl) (by simp) (AllReadyT.cons (by omega) rfl (fun K' hK => ?_) AllReadyT.nil)
                have hba := below_al (Below.refl X5.drew.heap.size X5.drew) (Nat.le_refl _) (.cells #[.bool eb] 4)
                refine valueD (d := 96) (v := .slice (some ⟨X5.drew.heap.size, 0, none⟩) 1 1) (w' := X5.drew.alloc (.cells #[.bool eb] 4)) rfl rfl (by first | rfl | kernel_rfl | (simp [execOp, go_sem]; done)) ?_
                refine hK.out _ _ ⟨hS.1.below hba hS.1.lt, hS.2.trans (hba.mono hTd.out.lo)⟩ fun _ => ?_
                clear hK hba
                simp only [List.setIfInBounds_toArray, List.set_cons_succ, List.set_cons_zero]
                refine headsT_ready (rs := [8]) (by kernel_rfl) (by simp) (AllReadyT.cons (by omega) rfl (fun K' hK => ?_) AllReadyT.nil)
                refine step_append_one (w := X5.drew) (l := N.ends.take k) (v := .slice qf k jf) eltBo (.tmp 90) (.tmp 96) 24 rfl rfl rfl bV_one' rfl hTd.out.f eb (.bool eb) rfl 4 rfl (by rw [hlE.out]; omega) (by rw [hlE.out]; omega) hTd.out.lo (N.ends.take (k + 1)) hcatE.out ?_
                intro p6 k6 w6 hO6 hG6 _
                rw [hlE2.out] at hO6 ⊢
                have hF := hTd.out.finMore _ hO6 hG6
                have hB6 : Below B W1 w6 := (hXd.trans (below_al (Below.refl B X5.drew) hTd.out.lo (.cells #[.bool eb] 4))).grown hG6 (Nat.le_trans hTd.out.lo (by simp)) (fun j hj => (hTd.out.f.lt j hj).1)
                have hB7 := below_set hB6 (b := B) 2 (Nat.le_refl _) (.slice p6 (k + 1) k6)
                refine hK.out _ _ ⟨hF.1, hB6⟩ fun _ => ?_
                clear hK hS hB6
                simp only [Act.put, List.setIfInBounds_toArray, List.set_cons_succ, List.set_cons_zero]
                refine headsT_tail (by kernel_rfl) ?_
                simp only [List.drop]
                have f2 := hF.1.frozen 2
                have g2 : w6.cell? ⟨B, 2, none⟩ = some (.slice qf k jf) := by rw [hF.1.cell?]; rfl
                have hN := hF.2
                clear hF hO6 hG6 hTd hXd hX5
                go_upto_region 27 with (fail)
                generalize (w6.setCell ⟨B, 2, none⟩ (.slice p6 (k + 1) k6)) = X6 at *
                clear f2 g2
                obtain ⟨vals, g1, g2, g3⟩ := hN.e
                have c27 : X6.cell? ⟨B, 3, none⟩ = some (.slice qe k je) := by rw [hN.box.cell?]; rfl
                have hba := below_al (Below.refl X6.heap.size X6) (Nat.le_refl _) (.cells #[] 5)
                have hNa := Lib.hid (hN.below' hba)
                have hva := g2.below' hba
                have hve : Hid (∀ i (h : i < vals.length) (h2 : i < (List.replicate k ([] : List UInt8)).length), Mem.Own u8V (X6.alloc (.cells #[] 5)) B 5 (oV vals[i]) (List.replicate k [])[i]) := Lib.hid fun i h h2 => (g3 i h h2).below' hba
                have hx0 : Hid (Mem.Own u8V (X6.alloc (.cells #[] 5)) B 5 (.slice (some ⟨X6.heap.size, 0, none⟩) 0 0) ([] : List UInt8)) := Lib.hid (Own.new (f := u8V) (l := []) X6 _ B hN.lo rfl (by simp))
                have hloa := hNa.out.lo
                have hvk : vals.length ≤ 64 := by rw [g1]; simp; omega
                have hvl : Hid ((vals ++ [slO (some ⟨X6.heap.size, 0, none⟩) 0 0]).length = k + 1) := Lib.hid (by rw [List.length_append, g1]; simp)
                have hB8 := hB7.trans (hba.mono hN.lo)
                replace g1 := Lib.hid g1
                clear hba g2 g3 hN hB7
                go_upto_region 10 with (at_builtin; (with_reducible refine append_one eltSB (.tmp 100) (.tmp 102) ?_ ?_ oV_one ?_ hva (slO (some ⟨X6.heap.size, 0, none⟩) 0 0) _ ?_ _ ?_ ?_ ?_ ?_ (vals ++ [slO (some ⟨X6.heap.size, 0, none⟩) 0 0]) ?_ ?_); rfl; rfl; rfl; rfl; (first | rfl | (rw [World.size_alloc]; rfl) | (simp [Act.eval]; done)); (omega); (omega); (exact hloa); rfl; (intro p9 c9 w9 hO9 hB9 hG9); (rw [hvl.out] at hO9 ⊢); (have hMore := hNa.out.endMore g1.out hva hve.out _ (slO (some ⟨X6.heap.size, 0, none⟩) 0 0) hx0.out hO9 hG9); (have e9 : w9.cell? ⟨B, 3, none⟩ = some (.slice qe k je) := by rw [hMore.1.cell?]; rfl); (have f9 := hMore.1.frozen 3))
                have hN9 := Lib.hid hMore.2
                have hX9 := below_set (hB8.trans hB9) (b := B) 3 (Nat.le_refl _) (.slice p9 (k + 1) c9)
                generalize (w9.setCell ⟨B, 3, none⟩ (.slice p9 (k + 1) c9)) = X9 at *
                clear hMore e9 f9 hO9 hB9 hG9 c27 hva hve hx0 hB8 hloa
                go_wp2_with fail
                go_roundw
                case rel => exact ⟨k + 1, p3, p6, p9, c3, k6, c9, us ++ [slO p7 row.length c7], by omega, by go_num, Lib.hid ⟨hls.out, by rw [hmt.out, List.replicate_succ']; exact hN9.out⟩, hX9⟩
                case measure => simp [intOf] <;> omega
          · obtain rfl : k = N.rows.length := by omega
            have hq : ¬ (N.rows.length : Int) < (N.rows.length : Int) := by omega
            obtain ⟨c0, c1, c2, hz, hE, hC, hR, hw⟩ := HG.out wr hX
            have hT := HT.out.2
            have hbox := hT.box
            have hlo := hT.lo
            clear hE hC hR
            go_wp2_with (first
              | ((with_reducible refine load_agg (f := oV) (l := [slO qc N.cls.length jc, slO pm N.rows.length km, slO qf N.rows.length jf, slO qe N.rows.length je]) (C := #[.slice qc N.cls.length jc, .slice pm N.rows.length km, .slice qf N.rows.length jf, .slice qe N.rows.length je]) aggTr (.tmp 4) ?_ ?_ B 0 ?_ hbox.at rfl ?_); rfl; rfl; rfl)
              | ((with_reducible refine store_agg (f := oV) (l := [on, on, on, on]) (l' := [slO qc N.cls.length jc, slO pm N.rows.length km, slO qf N.rows.length jf, slO qe N.rows.length je]) (t := 53) (C := #[.slice qc N.cls.length jc, .slice pm N.rows.length km, .slice qf N.rows.length jf, .slice qe N.rows.length je]) aggTr (.tmp 2) (.tmp 105) ?_ ?_ (w.heap.size + 1) ?_ ?_ ?_ hz ?_ oV_one ?_); rfl; rfl; rfl; rfl; rfl; rfl; (intro W9 hs9 hG9 hz9)))
            refine bodyPost_ret (v := .tuple #[.agg #[.slice qc N.cls.length jc, .slice pm N.rows.length km, .slice qf N.rows.length jf, .slice qe N.rows.length je], .int .i64 0]) (results_agg2 (f := oV) (l := [slO qc N.cls.length jc, slO pm N.rows.length km, slO qf N.rows.length jf, slO qe N.rows.length je]) (t := 3) rfl _ aggTr (w.heap.size + 1) 0 rfl hs9.at) rfl ?_
            have hfin := hT.rdAfter hG9 (Row_isT hz) (fun e => by injection e with e; omega)
            refine ⟨⟨_, _, rfl, by rw [hval.out]; rfl, ?_⟩, hw.grown hG9 hw.size (fun k e => by cases e; omega)⟩
            rw [ht.out]
            have e1 : (N.ends.map fun _ => ([] : List UInt8)) = List.replicate N.rows.length [] := by rw [List.map_const', hel.out]
            rw [e1]
            rw [List.take_of_length_le (Nat.le_refl _), List.take_of_length_le (by rw [hel.out]; exact Nat.le_refl _)] at hfin
            exact hfin
end Go.Proofs.YtgflelodpcgmbaaGreatDoor
