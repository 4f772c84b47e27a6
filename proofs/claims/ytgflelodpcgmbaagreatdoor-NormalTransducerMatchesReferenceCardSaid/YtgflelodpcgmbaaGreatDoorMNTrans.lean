/- normal.Transducer. -/
import Derived.Test.YtgflelodpcgmbaaGreatDoorMTrB
namespace Go.Proofs.YtgflelodpcgmbaaGreatDoor
open Go Go.RowKit Mem
set_option maxRecDepth 100000

/-- what a call for the transducer of a normalizer returns -/
def TrPost (N : NZ) (e : Ending) (w' : World) : Prop := ∃ v code, e = .returned (.tuple #[v, .int .i64 code]) ∧ code = (if N.valid = true then 0 else 1) ∧ TrAt w' v N.trn

set_option maxHeartbeats 32000000 in
theorem nTransducer (w : World) (N : NZ) (pc pr pe : Option Addr) (kc kr ke : Nat) (hv : NzAt w (.agg #[.slice pc N.cls.length kc, .slice pr N.rows.length kr, .slice pe N.ends.length ke]) N) :
    Calls Tryz.prog 22 #[.agg #[.slice pc N.cls.length kc, .slice pr N.rows.length kr, .slice pe N.ends.length ke]] w fun e w' => TrPost N e w' ∧ Below w.heap.size w w' := by
  have HV := Lib.hid hv
  have HE : Hid (Rd Value.bool w (.slice pe N.ends.length ke) N.ends ∧ RdK 4 clL w (.slice pc N.cls.length kc) N.cls ∧ RdR w (.slice pr N.rows.length kr) N.rows) := Lib.hid (by
    obtain ⟨vc, vr, ve, he, h1, h2, h3⟩ := hv
    obtain ⟨rfl, rfl, rfl⟩ : .slice pc N.cls.length kc = vc ∧ .slice pr N.rows.length kr = vr ∧ .slice pe N.ends.length ke = ve := by
      have := congrArg (fun v => match v with | Value.agg a => a.toList | _ => []) he
      simpa using this
    exact ⟨h3, h1, h2⟩)
  clear hv
  go_enter Tryz.func22, Tryz.ntmps22
  go_upto_region 1 with (fail)
  obtain ⟨W, hW, hB, hs, g0, g1⟩ : ∃ W, ((w.alloc (.cells #[.slice pc N.cls.length kc, .slice pr N.rows.length kr, .slice pe N.ends.length ke] 26)).alloc (.cells #[.slice none 0 0, .slice none 0 0, .slice none 0 0, .slice none 0 0] 53)) = W ∧ Below w.heap.size w W ∧ W.heap.size = w.heap.size + 2 ∧ W.heap[w.heap.size]? = some (.cells #[.slice pc N.cls.length kc, .slice pr N.rows.length kr, .slice pe N.ends.length ke] 26 (0, 0)) ∧ W.heap[w.heap.size + 1]? = some (.cells #[.slice none 0 0, .slice none 0 0, .slice none 0 0, .slice none 0 0] 53 (0, 0)) := by
    refine ⟨_, rfl, below_al (below_al (Below.refl _ _) (Nat.le_refl _) _) (Nat.le_refl _) _, by simp, ?_, ?_⟩
    all_goals repeat (first | (refine heap_new' _ _ _ ?_; (simp; done)) | (refine (Below.heap_alloc _ _ _ ?_).trans ?_; · (simp <;> omega)))
  rw [hW]
  clear hW
  have HC : Hid (∀ X : World, Below W.heap.size W X → X.cell? ⟨w.heap.size, 0, none⟩ = some (.slice pc N.cls.length kc) ∧ X.cell? ⟨w.heap.size, 1, none⟩ = some (.slice pr N.rows.length kr) ∧ X.cell? ⟨w.heap.size, 2, none⟩ = some (.slice pe N.ends.length ke) ∧ Row oV X (w.heap.size + 1) 53 [on, on, on, on] ∧ Rd Value.bool X (.slice pe N.ends.length ke) N.ends ∧ RdK 4 clL X (.slice pc N.cls.length kc) N.cls ∧ RdR X (.slice pr N.rows.length kr) N.rows ∧ Below w.heap.size w X) := Lib.hid fun X hX => by
    have h0 := (hX.block w.heap.size (by omega)).trans g0
    have hw := hB.trans (hX.mono hB.size)
    refine ⟨?_, ?_, ?_, (hX.block (w.heap.size + 1) (by omega)).trans g1, HE.out.1.below hw, HE.out.2.1.below hw, HE.out.2.2.below hw, hw⟩ <;> (unfold World.cell?; rw [h0]; rfl)
  have hBW := Lib.hid hB
  have hsz := Lib.hid hs
  clear g0 g1 hs
  obtain ⟨c0, c1, c2, _⟩ := HC.out W (Below.refl _ _)
  go_wp2_with fail
  refine (nValid W _ N (HV.out.below hB)).mono ?_
  rintro e W1 ⟨rfl, hX1⟩
  clear c0 c1 c2
  obtain ⟨c0, c1, c2, hz, _, _, _, hw⟩ := HC.out W1 hX1
  cases hval : N.valid with
  | false =>
    have ht : Hid (N.trn = ⟨[], [], [], []⟩) := Lib.hid (by unfold NZ.trn; rw [hval]; rfl)
    replace hval := Lib.hid hval
    clear c0 c1 c2
    go_wp2_with (first
      | ((with_reducible refine store_agg (f := oV) (l := [on, on, on, on]) (l' := [on, on, on, on]) (t := 53) (C := #[.slice none 0 0, .slice none 0 0, .slice none 0 0, .slice none 0 0]) aggTr (.tmp 2) (.tmp 13) ?_ ?_ (w.heap.size + 1) ?_ ?_ ?_ hz ?_ oV_one ?_); rfl; rfl; rfl; rfl; rfl; rfl; (intro W2 hs2 hG2 hz2)))
    refine bodyPost_ret (v := .tuple #[.agg #[.slice none 0 0, .slice none 0 0, .slice none 0 0, .slice none 0 0], .int .i64 1]) (results_agg2 (f := oV) (l := [on, on, on, on]) (t := 3) rfl _ aggTr (w.heap.size + 1) 0 rfl hs2.at) rfl ?_
    refine ⟨⟨_, _, rfl, by rw [hval.out]; rfl, ?_⟩, hw.grown hG2 hw.size (fun k e => by cases e; omega)⟩
    rw [ht.out]
    exact ⟨_, _, _, _, rfl, .inl ⟨none, rfl, rfl⟩, .inl ⟨none, rfl, rfl⟩, .inl ⟨none, rfl, rfl⟩, .inl ⟨none, rfl, rfl⟩⟩
  | true =>
    have ht : Hid (N.trn = ⟨N.cls, N.rows.map fun r => r.map Ce.mv, N.ends, N.ends.map fun _ => []⟩) := Lib.hid (by unfold NZ.trn; rw [if_pos hval])
    have hvi := (valid_iff N).1 hval
    have hcl : 1 ≤ N.cls.length ∧ N.cls.length ≤ 256 := by
      refine ⟨?_, hvi.1.1⟩
      have := hvi.2.2.1
      cases hc : N.cls with
      | nil => rw [hc] at this; cases this
      | cons a l => simp
    have hrl : 1 ≤ N.rows.length ∧ N.rows.length ≤ 64 := ⟨hvi.1.2.1, hvi.1.2.2.1⟩
    have hel : Hid (N.ends.length = N.rows.length) := Lib.hid hvi.1.2.2.2
    have hel2 : 1 ≤ N.ends.length ∧ N.ends.length ≤ 64 := by have := hel.out; omega
    have hrow : Hid (∀ k (h : k < N.rows.length), N.rows[k].length = N.cls.length) := Lib.hid fun k h => (hvi.2.2.2.2 _ (List.getElem_mem h)).1
    replace hval := Lib.hid hval
    clear hvi hz
    have hmk : Hid (∀ X : World, (Instr.makeSlice 43 (.int .i64 (N.ends.length : Int)) (.int .i64 (N.ends.length : Int))).run Tryz.prog X = .ok (.slice (some ⟨X.heap.size, 0, none⟩) N.ends.length N.ends.length) (X.alloc (.cells ((List.replicate N.ends.length on).map oV).toArray 29))) := Lib.hid fun X => make_sb X _ (by omega)
    have HF : Hid (∀ X : World, Below W1.heap.size W1 X → X.cell? ⟨w.heap.size, 0, none⟩ = some (.slice pc N.cls.length kc) ∧ X.cell? ⟨w.heap.size, 2, none⟩ = some (.slice pe N.ends.length ke) ∧ Rd Value.bool X (.slice pe N.ends.length ke) N.ends ∧ RdK 4 clL X (.slice pc N.cls.length kc) N.cls) := Lib.hid fun X hX => by
      have h := HC.out X (hX1.trans (hX.mono hX1.size))
      exact ⟨h.1, h.2.2.1, h.2.2.2.2.1, h.2.2.2.2.2.1⟩
    clear c0 c1 c2 hw
    replace hX1 := Lib.hid hX1
    replace hB := Lib.hid hB
    go_upto_region 3 with (fail)
    go_cut [4] (fun s4 wx => ∃ (n4 : Nat) (qc qf qe : Option Addr) (jc jf je : Nat), s4 = .pointer (some ⟨n4, 0, none⟩) ∧ TrB wx W1.heap.size n4 (slO qc N.cls.length jc) on (slO qf N.ends.length jf) (slO qe N.ends.length je) N.cls [] [] N.ends (List.replicate N.ends.length []) ∧ Below W1.heap.size W1 wx ∧ W1.heap.size ≤ n4)
    · refine region_headsT (S := fun X => Below W1.heap.size W1 X) 12 rfl (by kernel_rfl) (Below.refl _ _).drew fun hS => ?_
      refine headsT_takeD (i := 0) (d := 14) (v := .pointer (some ⟨w.heap.size, 0, none⟩)) (by kernel_rfl) rfl rfl (by omega) (by kernel_rfl) (by kernel_rfl) (fun c a w h => h) (yieldsIf_op rfl (fun w => by first | rfl | kernel_rfl | (go_simp; done))) hS ?_
      simp only [List.setIfInBounds_toArray, List.set_cons_succ, List.set_cons_zero]
      refine headsT_takeD (i := 1) (d := 15) (v := .slice pc N.cls.length kc) (by kernel_rfl) rfl rfl (by omega) (by kernel_rfl) (by kernel_rfl) (fun c a w h => h) (.inl ⟨by first | rfl | kernel_rfl, fun W' h => by obtain ⟨q0, q1, _⟩ := HF.out W' h; go_simp⟩) hS ?_
      simp only [List.setIfInBounds_toArray, List.set_cons_succ, List.set_cons_zero]
      refine headsT_takeD (i := 3) (d := 17) (v := .pointer (some ⟨w.heap.size, 2, none⟩)) (by kernel_rfl) rfl rfl (by omega) (by kernel_rfl) (by kernel_rfl) (fun c a w h => h) (yieldsIf_op rfl (fun w => by first | rfl | kernel_rfl | (go_simp; done))) hS ?_
      simp only [List.setIfInBounds_toArray, List.set_cons_succ, List.set_cons_zero]
      refine headsT_takeD (i := 4) (d := 18) (v := .slice pe N.ends.length ke) (by kernel_rfl) rfl rfl (by omega) (by kernel_rfl) (by kernel_rfl) (fun c a w h => h) (.inl ⟨by first | rfl | kernel_rfl, fun W' h => by obtain ⟨q0, q1, _⟩ := HF.out W' h; go_simp⟩) hS ?_
      simp only [List.setIfInBounds_toArray, List.set_cons_succ, List.set_cons_zero]
      refine headsT_takeD (i := 6) (d := 20) (v := .pointer (some ⟨w.heap.size, 2, none⟩)) (by kernel_rfl) rfl rfl (by omega) (by kernel_rfl) (by kernel_rfl) (fun c a w h => h) (yieldsIf_op rfl (fun w => by first | rfl | kernel_rfl | (go_simp; done))) hS ?_
      simp only [List.setIfInBounds_toArray, List.set_cons_succ, List.set_cons_zero]
      refine headsT_takeD (i := 7) (d := 21) (v := .slice pe N.ends.length ke) (by kernel_rfl) rfl rfl (by omega) (by kernel_rfl) (by kernel_rfl) (fun c a w h => h) (.inl ⟨by first | rfl | kernel_rfl, fun W' h => by obtain ⟨q0, q1, _⟩ := HF.out W' h; go_simp⟩) hS ?_
      simp only [List.setIfInBounds_toArray, List.set_cons_succ, List.set_cons_zero]
      refine headsT_takeD (i := 8) (d := 22) (v := .int .i64 (N.ends.length : Nat)) (by kernel_rfl) rfl rfl (by omega) (by kernel_rfl) (by kernel_rfl) (fun c a w h => h) (yieldsIf_op rfl (fun w => by first | rfl | kernel_rfl | (go_simp; done))) hS ?_
      simp only [List.setIfInBounds_toArray, List.set_cons_succ, List.set_cons_zero]
      generalize W1.drew = A0 at hS ⊢
      refine headsT_ready (rs := [2, 9, 11]) (by kernel_rfl) (by simp) (AllReadyT.cons (by omega) rfl (fun K' hK => ?_) (AllReadyT.cons (by omega) rfl (fun K' hK => ?_) (AllReadyT.cons (by omega) rfl (fun K' hK => ?_) AllReadyT.nil)))
      · refine callD (d := 16) (g := 47) (args := #[.slice pc N.cls.length kc]) rfl rfl (by first | kernel_rfl | (simp [execOp, resolve, invoke, Act.eval]) | go_simp) ?_
        refine (cloneCls A0 _ N.cls (HF.out _ hS).2.2.2 (by omega)).mono ?_
        rintro e A1 ⟨qc, jc, rfl, hC, hBx⟩
        replace hC := hC.mono hS.size
        replace hS := hS.trans (hBx.mono hS.size)
        refine ⟨_, rfl, hK.out _ _ hS fun _ => ?_⟩
        clear hK hBx
        simp only [List.setIfInBounds_toArray, List.set_cons_succ, List.set_cons_zero]
        refine headsT_ready (rs := [5, 9, 11]) (by kernel_rfl) (by simp) (AllReadyT.cons (by omega) rfl (fun K' hK => ?_) (AllReadyT.cons (by omega) rfl (fun K' hK => ?_) (AllReadyT.cons (by omega) rfl (fun K' hK => ?_) AllReadyT.nil)))
        · refine callD (d := 19) (g := 48) (args := #[.slice pe N.ends.length ke]) rfl rfl (by first | kernel_rfl | (simp [execOp, resolve, invoke, Act.eval]) | go_simp) ?_
          refine (cloneBools A1 _ N.ends (HF.out _ hS).2.2.1 (by omega)).mono ?_
          rintro e A2 ⟨qf, jf, rfl, hF, hBx⟩
          replace hF := hF.mono hS.size
          replace hC := hC.below' hBx
          replace hS := hS.trans (hBx.mono hS.size)
          refine ⟨_, rfl, hK.out _ _ hS fun _ => ?_⟩
          clear hK hBx
          simp only [List.setIfInBounds_toArray, List.set_cons_succ, List.set_cons_zero]
          refine headsT_ready (rs := [9, 11]) (by kernel_rfl) (by simp) (AllReadyT.cons (by omega) rfl (fun K' hK => ?_) (AllReadyT.cons (by omega) rfl (fun K' hK => ?_) AllReadyT.nil))
          · have hBx := below_al (Below.refl A2.heap.size A2) (Nat.le_refl _) (.cells ((List.replicate N.ends.length on).map oV).toArray 29)
            have hV : Mem.Own oV (A2.alloc (.cells ((List.replicate N.ends.length on).map oV).toArray 29)) W1.heap.size 29 (.slice (some ⟨A2.heap.size, 0, none⟩) N.ends.length N.ends.length) (List.replicate N.ends.length on) := by
              have h := Own.new (f := oV) (l := List.replicate N.ends.length on) A2 (.cells ((List.replicate N.ends.length on).map oV).toArray 29) (e := 29) W1.heap.size hS.size rfl (by simp [maxLen]; omega)
              simpa using h
            refine valueD (d := 23) (v := .slice (some ⟨A2.heap.size, 0, none⟩) N.ends.length N.ends.length) (w' := A2.alloc (.cells ((List.replicate N.ends.length on).map oV).toArray 29)) rfl rfl (by have q0 := hmk.out (A2); first | (simp [execOp, Act.eval, q0]; done) | go_simp) ?_
            generalize (A2.alloc (.cells ((List.replicate N.ends.length on).map oV).toArray 29)) = A3 at *
            have hlo9 : W1.heap.size ≤ A2.heap.size := hS.size
            obtain ⟨b9, hb9⟩ : ∃ b, b = A2.heap.size := ⟨_, rfl⟩
            rw [← hb9] at hV ⊢
            replace hC := hC.below' hBx
            replace hF := hF.below' hBx
            replace hS := hS.trans (hBx.mono hS.size)
            refine hK.out _ _ hS fun _ => ?_
            clear hK hBx
            simp only [List.setIfInBounds_toArray, List.set_cons_succ, List.set_cons_zero]
            refine headsT_takeD (i := 10) (d := 24) (v := .agg #[.slice qc N.cls.length jc, .slice none 0 0, .slice qf N.ends.length jf, .slice (some ⟨b9, 0, none⟩) N.ends.length N.ends.length]) (by kernel_rfl) rfl rfl (by omega) (by kernel_rfl) (by kernel_rfl) (fun c a w h => h) (yieldsIf_op rfl (fun w => by first | rfl | kernel_rfl | (go_simp; done))) hS ?_
            simp only [List.setIfInBounds_toArray, List.set_cons_succ, List.set_cons_zero]
            refine headsT_ready (rs := [11]) (by kernel_rfl) (by simp) (AllReadyT.cons (by omega) rfl (fun K' hK => ?_) AllReadyT.nil)
            · have hBx := below_al (Below.refl A3.heap.size A3) (Nat.le_refl _) (.cells #[.slice none 0 0, .slice none 0 0, .slice none 0 0, .slice none 0 0] 53)
              have hZ : Row oV (A3.alloc (.cells #[.slice none 0 0, .slice none 0 0, .slice none 0 0, .slice none 0 0] 53)) A3.heap.size 53 [on, on, on, on] := Row.new _ _ rfl
              have hn4 : W1.heap.size ≤ A3.heap.size := hS.size
              refine allocD (d := 4) (ob := (.cells #[.slice none 0 0, .slice none 0 0, .slice none 0 0, .slice none 0 0] 53)) rfl rfl (by first | rfl | kernel_rfl) ?_
              generalize (A3.alloc (.cells #[.slice none 0 0, .slice none 0 0, .slice none 0 0, .slice none 0 0] 53)) = A4 at *
              obtain ⟨n4, hn4e⟩ : ∃ b, b = A3.heap.size := ⟨_, rfl⟩
              rw [← hn4e] at hZ hn4 ⊢
              replace hC := hC.below' hBx
              replace hF := hF.below' hBx
              replace hV := hV.below' hBx
              replace hS := hS.trans (hBx.mono hS.size)
              refine hK.out _ _ hS fun _ => ?_
              clear hK hBx
              simp only [List.setIfInBounds_toArray, List.set_cons_succ, List.set_cons_zero]
              refine headsT_tail (by kernel_rfl) ?_
              simp only [List.drop]
              have hsz2 := hS.size
              go_wp2_with (((with_reducible refine store_agg (f := oV) (l := [on, on, on, on]) (l' := [slO qc N.cls.length jc, on, slO qf N.ends.length jf, slO (some ⟨b9, 0, none⟩) N.ends.length N.ends.length]) (t := 53) (C := #[.slice qc N.cls.length jc, .slice none 0 0, .slice qf N.ends.length jf, .slice (some ⟨b9, 0, none⟩) N.ends.length N.ends.length]) aggTr (.tmp 4) (.tmp 24) ?_ ?_ n4 ?_ ?_ ?_ hZ ?_ oV_one ?_); rfl; rfl; rfl; rfl; rfl; rfl; (intro Y hsY hGY hzY)))
              go_meet
              exact ⟨n4, qc, qf, some ⟨b9, 0, none⟩, jc, jf, N.ends.length, rfl, trB_new hZ hC hF hV hsY hGY hsz2, hS.grown hGY hS.size (fun k e => by cases e; exact hn4), hn4⟩
          · have hBx := below_al (Below.refl A2.heap.size A2) (Nat.le_refl _) (.cells #[.slice none 0 0, .slice none 0 0, .slice none 0 0, .slice none 0 0] 53)
            have hZ : Row oV (A2.alloc (.cells #[.slice none 0 0, .slice none 0 0, .slice none 0 0, .slice none 0 0] 53)) A2.heap.size 53 [on, on, on, on] := Row.new _ _ rfl
            have hn4 : W1.heap.size ≤ A2.heap.size := hS.size
            refine allocD (d := 4) (ob := (.cells #[.slice none 0 0, .slice none 0 0, .slice none 0 0, .slice none 0 0] 53)) rfl rfl (by first | rfl | kernel_rfl) ?_
            generalize (A2.alloc (.cells #[.slice none 0 0, .slice none 0 0, .slice none 0 0, .slice none 0 0] 53)) = A5 at *
            obtain ⟨n4, hn4e⟩ : ∃ b, b = A2.heap.size := ⟨_, rfl⟩
            rw [← hn4e] at hZ hn4 ⊢
            replace hC := hC.below' hBx
            replace hF := hF.below' hBx
            replace hS := hS.trans (hBx.mono hS.size)
            refine hK.out _ _ hS fun _ => ?_
            clear hK hBx
            simp only [List.setIfInBounds_toArray, List.set_cons_succ, List.set_cons_zero]
            refine headsT_ready (rs := [9]) (by kernel_rfl) (by simp) (AllReadyT.cons (by omega) rfl (fun K' hK => ?_) AllReadyT.nil)
            · have hBx := below_al (Below.refl A5.heap.size A5) (Nat.le_refl _) (.cells ((List.replicate N.ends.length on).map oV).toArray 29)
              have hV : Mem.Own oV (A5.alloc (.cells ((List.replicate N.ends.length on).map oV).toArray 29)) W1.heap.size 29 (.slice (some ⟨A5.heap.size, 0, none⟩) N.ends.length N.ends.length) (List.replicate N.ends.length on) := by
                have h := Own.new (f := oV) (l := List.replicate N.ends.length on) A5 (.cells ((List.replicate N.ends.length on).map oV).toArray 29) (e := 29) W1.heap.size hS.size rfl (by simp [maxLen]; omega)
                simpa using h
              refine valueD (d := 23) (v := .slice (some ⟨A5.heap.size, 0, none⟩) N.ends.length N.ends.length) (w' := A5.alloc (.cells ((List.replicate N.ends.length on).map oV).toArray 29)) rfl rfl (by have q0 := hmk.out (A5); first | (simp [execOp, Act.eval, q0]; done) | go_simp) ?_
              generalize (A5.alloc (.cells ((List.replicate N.ends.length on).map oV).toArray 29)) = A6 at *
              have hlo9 : W1.heap.size ≤ A5.heap.size := hS.size
              obtain ⟨b9, hb9⟩ : ∃ b, b = A5.heap.size := ⟨_, rfl⟩
              rw [← hb9] at hV ⊢
              replace hC := hC.below' hBx
              replace hF := hF.below' hBx
              replace hZ := hZ.below hBx hZ.lt
              replace hS := hS.trans (hBx.mono hS.size)
              refine hK.out _ _ hS fun _ => ?_
              clear hK hBx
              simp only [List.setIfInBounds_toArray, List.set_cons_succ, List.set_cons_zero]
              refine headsT_takeD (i := 10) (d := 24) (v := .agg #[.slice qc N.cls.length jc, .slice none 0 0, .slice qf N.ends.length jf, .slice (some ⟨b9, 0, none⟩) N.ends.length N.ends.length]) (by kernel_rfl) rfl rfl (by omega) (by kernel_rfl) (by kernel_rfl) (fun c a w h => h) (yieldsIf_op rfl (fun w => by first | rfl | kernel_rfl | (go_simp; done))) hS ?_
              simp only [List.setIfInBounds_toArray, List.set_cons_succ, List.set_cons_zero]
              refine headsT_tail (by kernel_rfl) ?_
              simp only [List.drop]
              have hsz2 := hS.size
              go_wp2_with (((with_reducible refine store_agg (f := oV) (l := [on, on, on, on]) (l' := [slO qc N.cls.length jc, on, slO qf N.ends.length jf, slO (some ⟨b9, 0, none⟩) N.ends.length N.ends.length]) (t := 53) (C := #[.slice qc N.cls.length jc, .slice none 0 0, .slice qf N.ends.length jf, .slice (some ⟨b9, 0, none⟩) N.ends.length N.ends.length]) aggTr (.tmp 4) (.tmp 24) ?_ ?_ n4 ?_ ?_ ?_ hZ ?_ oV_one ?_); rfl; rfl; rfl; rfl; rfl; rfl; (intro Y hsY hGY hzY)))
              go_meet
              exact ⟨n4, qc, qf, some ⟨b9, 0, none⟩, jc, jf, N.ends.length, rfl, trB_new hZ hC hF hV hsY hGY hsz2, hS.grown hGY hS.size (fun k e => by cases e; exact hn4), hn4⟩
        · have hBx := below_al (Below.refl A1.heap.size A1) (Nat.le_refl _) (.cells ((List.replicate N.ends.length on).map oV).toArray 29)
          have hV : Mem.Own oV (A1.alloc (.cells ((List.replicate N.ends.length on).map oV).toArray 29)) W1.heap.size 29 (.slice (some ⟨A1.heap.size, 0, none⟩) N.ends.length N.ends.length) (List.replicate N.ends.length on) := by
            have h := Own.new (f := oV) (l := List.replicate N.ends.length on) A1 (.cells ((List.replicate N.ends.length on).map oV).toArray 29) (e := 29) W1.heap.size hS.size rfl (by simp [maxLen]; omega)
            simpa using h
          refine valueD (d := 23) (v := .slice (some ⟨A1.heap.size, 0, none⟩) N.ends.length N.ends.length) (w' := A1.alloc (.cells ((List.replicate N.ends.length on).map oV).toArray 29)) rfl rfl (by have q0 := hmk.out (A1); first | (simp [execOp, Act.eval, q0]; done) | go_simp) ?_
          generalize (A1.alloc (.cells ((List.replicate N.ends.length on).map oV).toArray 29)) = A7 at *
          have hlo9 : W1.heap.size ≤ A1.heap.size := hS.size
          obtain ⟨b9, hb9⟩ : ∃ b, b = A1.heap.size := ⟨_, rfl⟩
          rw [← hb9] at hV ⊢
          replace hC := hC.below' hBx
          replace hS := hS.trans (hBx.mono hS.size)
          refine hK.out _ _ hS fun _ => ?_
          clear hK hBx
          simp only [List.setIfInBounds_toArray, List.set_cons_succ, List.set_cons_zero]
          refine headsT_ready (rs := [5, 11]) (by kernel_rfl) (by simp) (AllReadyT.cons (by omega) rfl (fun K' hK => ?_) (AllReadyT.cons (by omega) rfl (fun K' hK => ?_) AllReadyT.nil))
          · refine callD (d := 19) (g := 48) (args := #[.slice pe N.ends.length ke]) rfl rfl (by first | kernel_rfl | (simp [execOp, resolve, invoke, Act.eval]) | go_simp) ?_
            refine (cloneBools A7 _ N.ends (HF.out _ hS).2.2.1 (by omega)).mono ?_
            rintro e A8 ⟨qf, jf, rfl, hF, hBx⟩
            replace hF := hF.mono hS.size
            replace hC := hC.below' hBx
            replace hV := hV.below' hBx
            replace hS := hS.trans (hBx.mono hS.size)
            refine ⟨_, rfl, hK.out _ _ hS fun _ => ?_⟩
            clear hK hBx
            simp only [List.setIfInBounds_toArray, List.set_cons_succ, List.set_cons_zero]
            refine headsT_takeD (i := 10) (d := 24) (v := .agg #[.slice qc N.cls.length jc, .slice none 0 0, .slice qf N.ends.length jf, .slice (some ⟨b9, 0, none⟩) N.ends.length N.ends.length]) (by kernel_rfl) rfl rfl (by omega) (by kernel_rfl) (by kernel_rfl) (fun c a w h => h) (yieldsIf_op rfl (fun w => by first | rfl | kernel_rfl | (go_simp; done))) hS ?_
            simp only [List.setIfInBounds_toArray, List.set_cons_succ, List.set_cons_zero]
            refine headsT_ready (rs := [11]) (by kernel_rfl) (by simp) (AllReadyT.cons (by omega) rfl (fun K' hK => ?_) AllReadyT.nil)
            · have hBx := below_al (Below.refl A8.heap.size A8) (Nat.le_refl _) (.cells #[.slice none 0 0, .slice none 0 0, .slice none 0 0, .slice none 0 0] 53)
              have hZ : Row oV (A8.alloc (.cells #[.slice none 0 0, .slice none 0 0, .slice none 0 0, .slice none 0 0] 53)) A8.heap.size 53 [on, on, on, on] := Row.new _ _ rfl
              have hn4 : W1.heap.size ≤ A8.heap.size := hS.size
              refine allocD (d := 4) (ob := (.cells #[.slice none 0 0, .slice none 0 0, .slice none 0 0, .slice none 0 0] 53)) rfl rfl (by first | rfl | kernel_rfl) ?_
              generalize (A8.alloc (.cells #[.slice none 0 0, .slice none 0 0, .slice none 0 0, .slice none 0 0] 53)) = A9 at *
              obtain ⟨n4, hn4e⟩ : ∃ b, b = A8.heap.size := ⟨_, rfl⟩
              rw [← hn4e] at hZ hn4 ⊢
              replace hC := hC.below' hBx
              replace hF := hF.below' hBx
              replace hV := hV.below' hBx
              replace hS := hS.trans (hBx.mono hS.size)
              refine hK.out _ _ hS fun _ => ?_
              clear hK hBx
              simp only [List.setIfInBounds_toArray, List.set_cons_succ, List.set_cons_zero]
              refine headsT_tail (by kernel_rfl) ?_
              simp only [List.drop]
              have hsz2 := hS.size
              go_wp2_with (((with_reducible refine store_agg (f := oV) (l := [on, on, on, on]) (l' := [slO qc N.cls.length jc, on, slO qf N.ends.length jf, slO (some ⟨b9, 0, none⟩) N.ends.length N.ends.length]) (t := 53) (C := #[.slice qc N.cls.length jc, .slice none 0 0, .slice qf N.ends.length jf, .slice (some ⟨b9, 0, none⟩) N.ends.length N.ends.length]) aggTr (.tmp 4) (.tmp 24) ?_ ?_ n4 ?_ ?_ ?_ hZ ?_ oV_one ?_); rfl; rfl; rfl; rfl; rfl; rfl; (intro Y hsY hGY hzY)))
              go_meet
              exact ⟨n4, qc, qf, some ⟨b9, 0, none⟩, jc, jf, N.ends.length, rfl, trB_new hZ hC hF hV hsY hGY hsz2, hS.grown hGY hS.size (fun k e => by cases e; exact hn4), hn4⟩
          · have hBx := below_al (Below.refl A7.heap.size A7) (Nat.le_refl _) (.cells #[.slice none 0 0, .slice none 0 0, .slice none 0 0, .slice none 0 0] 53)
            have hZ : Row oV (A7.alloc (.cells #[.slice none 0 0, .slice none 0 0, .slice none 0 0, .slice none 0 0] 53)) A7.heap.size 53 [on, on, on, on] := Row.new _ _ rfl
            have hn4 : W1.heap.size ≤ A7.heap.size := hS.size
            refine allocD (d := 4) (ob := (.cells #[.slice none 0 0, .slice none 0 0, .slice none 0 0, .slice none 0 0] 53)) rfl rfl (by first | rfl | kernel_rfl) ?_
            generalize (A7.alloc (.cells #[.slice none 0 0, .slice none 0 0, .slice none 0 0, .slice none 0 0] 53)) = A10 at *
            obtain ⟨n4, hn4e⟩ : ∃ b, b = A7.heap.size := ⟨_, rfl⟩
            rw [← hn4e] at hZ hn4 ⊢
            replace hC := hC.below' hBx
            replace hV := hV.below' hBx
            replace hS := hS.trans (hBx.mono hS.size)
            refine hK.out _ _ hS fun _ => ?_
            clear hK hBx
            simp only [List.setIfInBounds_toArray, List.set_cons_succ, List.set_cons_zero]
            refine headsT_ready (rs := [5]) (by kernel_rfl) (by simp) (AllReadyT.cons (by omega) rfl (fun K' hK => ?_) AllReadyT.nil)
            · refine callD (d := 19) (g := 48) (args := #[.slice pe N.ends.length ke]) rfl rfl (by first | kernel_rfl | (simp [execOp, resolve, invoke, Act.eval]) | go_simp) ?_
              refine (cloneBools A10 _ N.ends (HF.out _ hS).2.2.1 (by omega)).mono ?_
              rintro e A11 ⟨qf, jf, rfl, hF, hBx⟩
              replace hF := hF.mono hS.size
              replace hC := hC.below' hBx
              replace hV := hV.below' hBx
              replace hZ := hZ.below hBx hZ.lt
              replace hS := hS.trans (hBx.mono hS.size)
              refine ⟨_, rfl, hK.out _ _ hS fun _ => ?_⟩
              clear hK hBx
              simp only [List.setIfInBounds_toArray, List.set_cons_succ, List.set_cons_zero]
              refine headsT_takeD (i := 10) (d := 24) (v := .agg #[.slice qc N.cls.length jc, .slice none 0 0, .slice qf N.ends.length jf, .slice (some ⟨b9, 0, none⟩) N.ends.length N.ends.length]) (by kernel_rfl) rfl rfl (by omega) (by kernel_rfl) (by kernel_rfl) (fun c a w h => h) (yieldsIf_op rfl (fun w => by first | rfl | kernel_rfl | (go_simp; done))) hS ?_
              simp only [List.setIfInBounds_toArray, List.set_cons_succ, List.set_cons_zero]
              refine headsT_tail (by kernel_rfl) ?_
              simp only [List.drop]
              have hsz2 := hS.size
              go_wp2_with (((with_reducible refine store_agg (f := oV) (l := [on, on, on, on]) (l' := [slO qc N.cls.length jc, on, slO qf N.ends.length jf, slO (some ⟨b9, 0, none⟩) N.ends.length N.ends.length]) (t := 53) (C := #[.slice qc N.cls.length jc, .slice none 0 0, .slice qf N.ends.length jf, .slice (some ⟨b9, 0, none⟩) N.ends.length N.ends.length]) aggTr (.tmp 4) (.tmp 24) ?_ ?_ n4 ?_ ?_ ?_ hZ ?_ oV_one ?_); rfl; rfl; rfl; rfl; rfl; rfl; (intro Y hsY hGY hzY)))
              go_meet
              exact ⟨n4, qc, qf, some ⟨b9, 0, none⟩, jc, jf, N.ends.length, rfl, trB_new hZ hC hF hV hsY hGY hsz2, hS.grown hGY hS.size (fun k e => by cases e; exact hn4), hn4⟩
        · have hBx := below_al (Below.refl A1.heap.size A1) (Nat.le_refl _) (.cells #[.slice none 0 0, .slice none 0 0, .slice none 0 0, .slice none 0 0] 53)
          have hZ : Row oV (A1.alloc (.cells #[.slice none 0 0, .slice none 0 0, .slice none 0 0, .slice none 0 0] 53)) A1.heap.size 53 [on, on, on, on] := Row.new _ _ rfl
          have hn4 : W1.heap.size ≤ A1.heap.size := hS.size
          refine allocD (d := 4) (ob := (.cells #[.slice none 0 0, .slice none 0 0, .slice none 0 0, .slice none 0 0] 53)) rfl rfl (by first | rfl | kernel_rfl) ?_
          generalize (A1.alloc (.cells #[.slice none 0 0, .slice none 0 0, .slice none 0 0, .slice none 0 0] 53)) = A12 at *
          obtain ⟨n4, hn4e⟩ : ∃ b, b = A1.heap.size := ⟨_, rfl⟩
          rw [← hn4e] at hZ hn4 ⊢
          replace hC := hC.below' hBx
          replace hS := hS.trans (hBx.mono hS.size)
          refine hK.out _ _ hS fun _ => ?_
          clear hK hBx
          simp only [List.setIfInBounds_toArray, List.set_cons_succ, List.set_cons_zero]
          refine headsT_ready (rs := [5, 9]) (by kernel_rfl) (by simp) (AllReadyT.cons (by omega) rfl (fun K' hK => ?_) (AllReadyT.cons (by omega) rfl (fun K' hK => ?_) AllReadyT.nil))
          · refine callD (d := 19) (g := 48) (args := #[.slice pe N.ends.length ke]) rfl rfl (by first | kernel_rfl | (simp [execOp, resolve, invoke, Act.eval]) | go_simp) ?_
            refine (cloneBools A12 _ N.ends (HF.out _ hS).2.2.1 (by omega)).mono ?_
            rintro e A13 ⟨qf, jf, rfl, hF, hBx⟩
            replace hF := hF.mono hS.size
            replace hC := hC.below' hBx
            replace hZ := hZ.below hBx hZ.lt
            replace hS := hS.trans (hBx.mono hS.size)
            refine ⟨_, rfl, hK.out _ _ hS fun _ => ?_⟩
            clear hK hBx
            simp only [List.setIfInBounds_toArray, List.set_cons_succ, List.set_cons_zero]
            refine headsT_ready (rs := [9]) (by kernel_rfl) (by simp) (AllReadyT.cons (by omega) rfl (fun K' hK => ?_) AllReadyT.nil)
            · have hBx := below_al (Below.refl A13.heap.size A13) (Nat.le_refl _) (.cells ((List.replicate N.ends.length on).map oV).toArray 29)
              have hV : Mem.Own oV (A13.alloc (.cells ((List.replicate N.ends.length on).map oV).toArray 29)) W1.heap.size 29 (.slice (some ⟨A13.heap.size, 0, none⟩) N.ends.length N.ends.length) (List.replicate N.ends.length on) := by
                have h := Own.new (f := oV) (l := List.replicate N.ends.length on) A13 (.cells ((List.replicate N.ends.length on).map oV).toArray 29) (e := 29) W1.heap.size hS.size rfl (by simp [maxLen]; omega)
                simpa using h
              refine valueD (d := 23) (v := .slice (some ⟨A13.heap.size, 0, none⟩) N.ends.length N.ends.length) (w' := A13.alloc (.cells ((List.replicate N.ends.length on).map oV).toArray 29)) rfl rfl (by have q0 := hmk.out (A13); first | (simp [execOp, Act.eval, q0]; done) | go_simp) ?_
              generalize (A13.alloc (.cells ((List.replicate N.ends.length on).map oV).toArray 29)) = A14 at *
              have hlo9 : W1.heap.size ≤ A13.heap.size := hS.size
              obtain ⟨b9, hb9⟩ : ∃ b, b = A13.heap.size := ⟨_, rfl⟩
              rw [← hb9] at hV ⊢
              replace hC := hC.below' hBx
              replace hF := hF.below' hBx
              replace hZ := hZ.below hBx hZ.lt
              replace hS := hS.trans (hBx.mono hS.size)
              refine hK.out _ _ hS fun _ => ?_
              clear hK hBx
              simp only [List.setIfInBounds_toArray, List.set_cons_succ, List.set_cons_zero]
              refine headsT_takeD (i := 10) (d := 24) (v := .agg #[.slice qc N.cls.length jc, .slice none 0 0, .slice qf N.ends.length jf, .slice (some ⟨b9, 0, none⟩) N.ends.length N.ends.length]) (by kernel_rfl) rfl rfl (by omega) (by kernel_rfl) (by kernel_rfl) (fun c a w h => h) (yieldsIf_op rfl (fun w => by first | rfl | kernel_rfl | (go_simp; done))) hS ?_
              simp only [List.setIfInBounds_toArray, List.set_cons_succ, List.set_cons_zero]
              refine headsT_tail (by kernel_rfl) ?_
              simp only [List.drop]
              have hsz2 := hS.size
              go_wp2_with (((with_reducible refine store_agg (f := oV) (l := [on, on, on, on]) (l' := [slO qc N.cls.length jc, on, slO qf N.ends.length jf, slO (some ⟨b9, 0, none⟩) N.ends.length N.ends.length]) (t := 53) (C := #[.slice qc N.cls.length jc, .slice none 0 0, .slice qf N.ends.length jf, .slice (some ⟨b9, 0, none⟩) N.ends.length N.ends.length]) aggTr (.tmp 4) (.tmp 24) ?_ ?_ n4 ?_ ?_ ?_ hZ ?_ oV_one ?_); rfl; rfl; rfl; rfl; rfl; rfl; (intro Y hsY hGY hzY)))
              go_meet
              exact ⟨n4, qc, qf, some ⟨b9, 0, none⟩, jc, jf, N.ends.length, rfl, trB_new hZ hC hF hV hsY hGY hsz2, hS.grown hGY hS.size (fun k e => by cases e; exact hn4), hn4⟩
          · have hBx := below_al (Below.refl A12.heap.size A12) (Nat.le_refl _) (.cells ((List.replicate N.ends.length on).map oV).toArray 29)
            have hV : Mem.Own oV (A12.alloc (.cells ((List.replicate N.ends.length on).map oV).toArray 29)) W1.heap.size 29 (.slice (some ⟨A12.heap.size, 0, none⟩) N.ends.length N.ends.length) (List.replicate N.ends.length on) := by
              have h := Own.new (f := oV) (l := List.replicate N.ends.length on) A12 (.cells ((List.replicate N.ends.length on).map oV).toArray 29) (e := 29) W1.heap.size hS.size rfl (by simp [maxLen]; omega)
              simpa using h
            refine valueD (d := 23) (v := .slice (some ⟨A12.heap.size, 0, none⟩) N.ends.length N.ends.length) (w' := A12.alloc (.cells ((List.replicate N.ends.length on).map oV).toArray 29)) rfl rfl (by have q0 := hmk.out (A12); first | (simp [execOp, Act.eval, q0]; done) | go_simp) ?_
            generalize (A12.alloc (.cells ((List.replicate N.ends.length on).map oV).toArray 29)) = A15 at *
            have hlo9 : W1.heap.size ≤ A12.heap.size := hS.size
            obtain ⟨b9, hb9⟩ : ∃ b, b = A12.heap.size := ⟨_, rfl⟩
            rw [← hb9] at hV ⊢
            replace hC := hC.below' hBx
            replace hZ := hZ.below hBx hZ.lt
            replace hS := hS.trans (hBx.mono hS.size)
            refine hK.out _ _ hS fun _ => ?_
            clear hK hBx
            simp only [List.setIfInBounds_toArray, List.set_cons_succ, List.set_cons_zero]
            refine headsT_ready (rs := [5]) (by kernel_rfl) (by simp) (AllReadyT.cons (by omega) rfl (fun K' hK => ?_) AllReadyT.nil)
            · refine callD (d := 19) (g := 48) (args := #[.slice pe N.ends.length ke]) rfl rfl (by first | kernel_rfl | (simp [execOp, resolve, invoke, Act.eval]) | go_simp) ?_
              refine (cloneBools A15 _ N.ends (HF.out _ hS).2.2.1 (by omega)).mono ?_
              rintro e A16 ⟨qf, jf, rfl, hF, hBx⟩
              replace hF := hF.mono hS.size
              replace hC := hC.below' hBx
              replace hV := hV.below' hBx
              replace hZ := hZ.below hBx hZ.lt
              replace hS := hS.trans (hBx.mono hS.size)
              refine ⟨_, rfl, hK.out _ _ hS fun _ => ?_⟩
              clear hK hBx
              simp only [List.setIfInBounds_toArray, List.set_cons_succ, List.set_cons_zero]
              refine headsT_takeD (i := 10) (d := 24) (v := .agg #[.slice qc N.cls.length jc, .slice none 0 0, .slice qf N.ends.length jf, .slice (some ⟨b9, 0, none⟩) N.ends.length N.ends.length]) (by kernel_rfl) rfl rfl (by omega) (by kernel_rfl) (by kernel_rfl) (fun c a w h => h) (yieldsIf_op rfl (fun w => by first | rfl | kernel_rfl | (go_simp; done))) hS ?_
              simp only [List.setIfInBounds_toArray, List.set_cons_succ, List.set_cons_zero]
              refine headsT_tail (by kernel_rfl) ?_
              simp only [List.drop]
              have hsz2 := hS.size
              go_wp2_with (((with_reducible refine store_agg (f := oV) (l := [on, on, on, on]) (l' := [slO qc N.cls.length jc, on, slO qf N.ends.length jf, slO (some ⟨b9, 0, none⟩) N.ends.length N.ends.length]) (t := 53) (C := #[.slice qc N.cls.length jc, .slice none 0 0, .slice qf N.ends.length jf, .slice (some ⟨b9, 0, none⟩) N.ends.length N.ends.length]) aggTr (.tmp 4) (.tmp 24) ?_ ?_ n4 ?_ ?_ ?_ hZ ?_ oV_one ?_); rfl; rfl; rfl; rfl; rfl; rfl; (intro Y hsY hGY hzY)))
              go_meet
              exact ⟨n4, qc, qf, some ⟨b9, 0, none⟩, jc, jf, N.ends.length, rfl, trB_new hZ hC hF hV hsY hGY hsz2, hS.grown hGY hS.size (fun k e => by cases e; exact hn4), hn4⟩
      · have hBx := below_al (Below.refl A0.heap.size A0) (Nat.le_refl _) (.cells ((List.replicate N.ends.length on).map oV).toArray 29)
        have hV : Mem.Own oV (A0.alloc (.cells ((List.replicate N.ends.length on).map oV).toArray 29)) W1.heap.size 29 (.slice (some ⟨A0.heap.size, 0, none⟩) N.ends.length N.ends.length) (List.replicate N.ends.length on) := by
          have h := Own.new (f := oV) (l := List.replicate N.ends.length on) A0 (.cells ((List.replicate N.ends.length on).map oV).toArray 29) (e := 29) W1.heap.size hS.size rfl (by simp [maxLen]; omega)
          simpa using h
        refine valueD (d := 23) (v := .slice (some ⟨A0.heap.size, 0, none⟩) N.ends.length N.ends.length) (w' := A0.alloc (.cells ((List.replicate N.ends.length on).map oV).toArray 29)) rfl rfl (by have q0 := hmk.out (A0); first | (simp [execOp, Act.eval, q0]; done) | go_simp) ?_
        generalize (A0.alloc (.cells ((List.replicate N.ends.length on).map oV).toArray 29)) = A17 at *
        have hlo9 : W1.heap.size ≤ A0.heap.size := hS.size
        obtain ⟨b9, hb9⟩ : ∃ b, b = A0.heap.size := ⟨_, rfl⟩
        rw [← hb9] at hV ⊢
        replace hS := hS.trans (hBx.mono hS.size)
        refine hK.out _ _ hS fun _ => ?_
        clear hK hBx
        simp only [List.setIfInBounds_toArray, List.set_cons_succ, List.set_cons_zero]
        refine headsT_ready (rs := [2, 11]) (by kernel_rfl) (by simp) (AllReadyT.cons (by omega) rfl (fun K' hK => ?_) (AllReadyT.cons (by omega) rfl (fun K' hK => ?_) AllReadyT.nil))
        · refine callD (d := 16) (g := 47) (args := #[.slice pc N.cls.length kc]) rfl rfl (by first | kernel_rfl | (simp [execOp, resolve, invoke, Act.eval]) | go_simp) ?_
          refine (cloneCls A17 _ N.cls (HF.out _ hS).2.2.2 (by omega)).mono ?_
          rintro e A18 ⟨qc, jc, rfl, hC, hBx⟩
          replace hC := hC.mono hS.size
          replace hV := hV.below' hBx
          replace hS := hS.trans (hBx.mono hS.size)
          refine ⟨_, rfl, hK.out _ _ hS fun _ => ?_⟩
          clear hK hBx
          simp only [List.setIfInBounds_toArray, List.set_cons_succ, List.set_cons_zero]
          refine headsT_ready (rs := [5, 11]) (by kernel_rfl) (by simp) (AllReadyT.cons (by omega) rfl (fun K' hK => ?_) (AllReadyT.cons (by omega) rfl (fun K' hK => ?_) AllReadyT.nil))
          · refine callD (d := 19) (g := 48) (args := #[.slice pe N.ends.length ke]) rfl rfl (by first | kernel_rfl | (simp [execOp, resolve, invoke, Act.eval]) | go_simp) ?_
            refine (cloneBools A18 _ N.ends (HF.out _ hS).2.2.1 (by omega)).mono ?_
            rintro e A19 ⟨qf, jf, rfl, hF, hBx⟩
            replace hF := hF.mono hS.size
            replace hC := hC.below' hBx
            replace hV := hV.below' hBx
            replace hS := hS.trans (hBx.mono hS.size)
            refine ⟨_, rfl, hK.out _ _ hS fun _ => ?_⟩
            clear hK hBx
            simp only [List.setIfInBounds_toArray, List.set_cons_succ, List.set_cons_zero]
            refine headsT_takeD (i := 10) (d := 24) (v := .agg #[.slice qc N.cls.length jc, .slice none 0 0, .slice qf N.ends.length jf, .slice (some ⟨b9, 0, none⟩) N.ends.length N.ends.length]) (by kernel_rfl) rfl rfl (by omega) (by kernel_rfl) (by kernel_rfl) (fun c a w h => h) (yieldsIf_op rfl (fun w => by first | rfl | kernel_rfl | (go_simp; done))) hS ?_
            simp only [List.setIfInBounds_toArray, List.set_cons_succ, List.set_cons_zero]
            refine headsT_ready (rs := [11]) (by kernel_rfl) (by simp) (AllReadyT.cons (by omega) rfl (fun K' hK => ?_) AllReadyT.nil)
            · have hBx := below_al (Below.refl A19.heap.size A19) (Nat.le_refl _) (.cells #[.slice none 0 0, .slice none 0 0, .slice none 0 0, .slice none 0 0] 53)
              have hZ : Row oV (A19.alloc (.cells #[.slice none 0 0, .slice none 0 0, .slice none 0 0, .slice none 0 0] 53)) A19.heap.size 53 [on, on, on, on] := Row.new _ _ rfl
              have hn4 : W1.heap.size ≤ A19.heap.size := hS.size
              refine allocD (d := 4) (ob := (.cells #[.slice none 0 0, .slice none 0 0, .slice none 0 0, .slice none 0 0] 53)) rfl rfl (by first | rfl | kernel_rfl) ?_
              generalize (A19.alloc (.cells #[.slice none 0 0, .slice none 0 0, .slice none 0 0, .slice none 0 0] 53)) = A20 at *
              obtain ⟨n4, hn4e⟩ : ∃ b, b = A19.heap.size := ⟨_, rfl⟩
              rw [← hn4e] at hZ hn4 ⊢
              replace hC := hC.below' hBx
              replace hF := hF.below' hBx
              replace hV := hV.below' hBx
              replace hS := hS.trans (hBx.mono hS.size)
              refine hK.out _ _ hS fun _ => ?_
              clear hK hBx
              simp only [List.setIfInBounds_toArray, List.set_cons_succ, List.set_cons_zero]
              refine headsT_tail (by kernel_rfl) ?_
              simp only [List.drop]
              have hsz2 := hS.size
              go_wp2_with (((with_reducible refine store_agg (f := oV) (l := [on, on, on, on]) (l' := [slO qc N.cls.length jc, on, slO qf N.ends.length jf, slO (some ⟨b9, 0, none⟩) N.ends.length N.ends.length]) (t := 53) (C := #[.slice qc N.cls.length jc, .slice none 0 0, .slice qf N.ends.length jf, .slice (some ⟨b9, 0, none⟩) N.ends.length N.ends.length]) aggTr (.tmp 4) (.tmp 24) ?_ ?_ n4 ?_ ?_ ?_ hZ ?_ oV_one ?_); rfl; rfl; rfl; rfl; rfl; rfl; (intro Y hsY hGY hzY)))
              go_meet
              exact ⟨n4, qc, qf, some ⟨b9, 0, none⟩, jc, jf, N.ends.length, rfl, trB_new hZ hC hF hV hsY hGY hsz2, hS.grown hGY hS.size (fun k e => by cases e; exact hn4), hn4⟩
          · have hBx := below_al (Below.refl A18.heap.size A18) (Nat.le_refl _) (.cells #[.slice none 0 0, .slice none 0 0, .slice none 0 0, .slice none 0 0] 53)
            have hZ : Row oV (A18.alloc (.cells #[.slice none 0 0, .slice none 0 0, .slice none 0 0, .slice none 0 0] 53)) A18.heap.size 53 [on, on, on, on] := Row.new _ _ rfl
            have hn4 : W1.heap.size ≤ A18.heap.size := hS.size
            refine allocD (d := 4) (ob := (.cells #[.slice none 0 0, .slice none 0 0, .slice none 0 0, .slice none 0 0] 53)) rfl rfl (by first | rfl | kernel_rfl) ?_
            generalize (A18.alloc (.cells #[.slice none 0 0, .slice none 0 0, .slice none 0 0, .slice none 0 0] 53)) = A21 at *
            obtain ⟨n4, hn4e⟩ : ∃ b, b = A18.heap.size := ⟨_, rfl⟩
            rw [← hn4e] at hZ hn4 ⊢
            replace hC := hC.below' hBx
            replace hV := hV.below' hBx
            replace hS := hS.trans (hBx.mono hS.size)
            refine hK.out _ _ hS fun _ => ?_
            clear hK hBx
            simp only [List.setIfInBounds_toArray, List.set_cons_succ, List.set_cons_zero]
            refine headsT_ready (rs := [5]) (by kernel_rfl) (by simp) (AllReadyT.cons (by omega) rfl (fun K' hK => ?_) AllReadyT.nil)
            · refine callD (d := 19) (g := 48) (args := #[.slice pe N.ends.length ke]) rfl rfl (by first | kernel_rfl | (simp [execOp, resolve, invoke, Act.eval]) | go_simp) ?_
              refine (cloneBools A21 _ N.ends (HF.out _ hS).2.2.1 (by omega)).mono ?_
              rintro e A22 ⟨qf, jf, rfl, hF, hBx⟩
              replace hF := hF.mono hS.size
              replace hC := hC.below' hBx
              replace hV := hV.below' hBx
              replace hZ := hZ.below hBx hZ.lt
              replace hS := hS.trans (hBx.mono hS.size)
              refine ⟨_, rfl, hK.out _ _ hS fun _ => ?_⟩
              clear hK hBx
              simp only [List.setIfInBounds_toArray, List.set_cons_succ, List.set_cons_zero]
              refine headsT_takeD (i := 10) (d := 24) (v := .agg #[.slice qc N.cls.length jc, .slice none 0 0, .slice qf N.ends.length jf, .slice (some ⟨b9, 0, none⟩) N.ends.length N.ends.length]) (by kernel_rfl) rfl rfl (by omega) (by kernel_rfl) (by kernel_rfl) (fun c a w h => h) (yieldsIf_op rfl (fun w => by first | rfl | kernel_rfl | (go_simp; done))) hS ?_
              simp only [List.setIfInBounds_toArray, List.set_cons_succ, List.set_cons_zero]
              refine headsT_tail (by kernel_rfl) ?_
              simp only [List.drop]
              have hsz2 := hS.size
              go_wp2_with (((with_reducible refine store_agg (f := oV) (l := [on, on, on, on]) (l' := [slO qc N.cls.length jc, on, slO qf N.ends.length jf, slO (some ⟨b9, 0, none⟩) N.ends.length N.ends.length]) (t := 53) (C := #[.slice qc N.cls.length jc, .slice none 0 0, .slice qf N.ends.length jf, .slice (some ⟨b9, 0, none⟩) N.ends.length N.ends.length]) aggTr (.tmp 4) (.tmp 24) ?_ ?_ n4 ?_ ?_ ?_ hZ ?_ oV_one ?_); rfl; rfl; rfl; rfl; rfl; rfl; (intro Y hsY hGY hzY)))
              go_meet
              exact ⟨n4, qc, qf, some ⟨b9, 0, none⟩, jc, jf, N.ends.length, rfl, trB_new hZ hC hF hV hsY hGY hsz2, hS.grown hGY hS.size (fun k e => by cases e; exact hn4), hn4⟩
        · have hBx := below_al (Below.refl A17.heap.size A17) (Nat.le_refl _) (.cells #[.slice none 0 0, .slice none 0 0, .slice none 0 0, .slice none 0 0] 53)
          have hZ : Row oV (A17.alloc (.cells #[.slice none 0 0, .slice none 0 0, .slice none 0 0, .slice none 0 0] 53)) A17.heap.size 53 [on, on, on, on] := Row.new _ _ rfl
          have hn4 : W1.heap.size ≤ A17.heap.size := hS.size
          refine allocD (d := 4) (ob := (.cells #[.slice none 0 0, .slice none 0 0, .slice none 0 0, .slice none 0 0] 53)) rfl rfl (by first | rfl | kernel_rfl) ?_
          generalize (A17.alloc (.cells #[.slice none 0 0, .slice none 0 0, .slice none 0 0, .slice none 0 0] 53)) = A23 at *
          obtain ⟨n4, hn4e⟩ : ∃ b, b = A17.heap.size := ⟨_, rfl⟩
          rw [← hn4e] at hZ hn4 ⊢
          replace hV := hV.below' hBx
          replace hS := hS.trans (hBx.mono hS.size)
          refine hK.out _ _ hS fun _ => ?_
          clear hK hBx
          simp only [List.setIfInBounds_toArray, List.set_cons_succ, List.set_cons_zero]
          refine headsT_ready (rs := [2]) (by kernel_rfl) (by simp) (AllReadyT.cons (by omega) rfl (fun K' hK => ?_) AllReadyT.nil)
          · refine callD (d := 16) (g := 47) (args := #[.slice pc N.cls.length kc]) rfl rfl (by first | kernel_rfl | (simp [execOp, resolve, invoke, Act.eval]) | go_simp) ?_
            refine (cloneCls A23 _ N.cls (HF.out _ hS).2.2.2 (by omega)).mono ?_
            rintro e A24 ⟨qc, jc, rfl, hC, hBx⟩
            replace hC := hC.mono hS.size
            replace hV := hV.below' hBx
            replace hZ := hZ.below hBx hZ.lt
            replace hS := hS.trans (hBx.mono hS.size)
            refine ⟨_, rfl, hK.out _ _ hS fun _ => ?_⟩
            clear hK hBx
            simp only [List.setIfInBounds_toArray, List.set_cons_succ, List.set_cons_zero]
            refine headsT_ready (rs := [5]) (by kernel_rfl) (by simp) (AllReadyT.cons (by omega) rfl (fun K' hK => ?_) AllReadyT.nil)
            · refine callD (d := 19) (g := 48) (args := #[.slice pe N.ends.length ke]) rfl rfl (by first | kernel_rfl | (simp [execOp, resolve, invoke, Act.eval]) | go_simp) ?_
              refine (cloneBools A24 _ N.ends (HF.out _ hS).2.2.1 (by omega)).mono ?_
              rintro e A25 ⟨qf, jf, rfl, hF, hBx⟩
              replace hF := hF.mono hS.size
              replace hC := hC.below' hBx
              replace hV := hV.below' hBx
              replace hZ := hZ.below hBx hZ.lt
              replace hS := hS.trans (hBx.mono hS.size)
              refine ⟨_, rfl, hK.out _ _ hS fun _ => ?_⟩
              clear hK hBx
              simp only [List.setIfInBounds_toArray, List.set_cons_succ, List.set_cons_zero]
              refine headsT_takeD (i := 10) (d := 24) (v := .agg #[.slice qc N.cls.length jc, .slice none 0 0, .slice qf N.ends.length jf, .slice (some ⟨b9, 0, none⟩) N.ends.length N.ends.length]) (by kernel_rfl) rfl rfl (by omega) (by kernel_rfl) (by kernel_rfl) (fun c a w h => h) (yieldsIf_op rfl (fun w => by first | rfl | kernel_rfl | (go_simp; done))) hS ?_
              simp only [List.setIfInBounds_toArray, List.set_cons_succ, List.set_cons_zero]
              refine headsT_tail (by kernel_rfl) ?_
              simp only [List.drop]
              have hsz2 := hS.size
              go_wp2_with (((with_reducible refine store_agg (f := oV) (l := [on, on, on, on]) (l' := [slO qc N.cls.length jc, on, slO qf N.ends.length jf, slO (some ⟨b9, 0, none⟩) N.ends.length N.ends.length]) (t := 53) (C := #[.slice qc N.cls.length jc, .slice none 0 0, .slice qf N.ends.length jf, .slice (some ⟨b9, 0, none⟩) N.ends.length N.ends.length]) aggTr (.tmp 4) (.tmp 24) ?_ ?_ n4 ?_ ?_ ?_ hZ ?_ oV_one ?_); rfl; rfl; rfl; rfl; rfl; rfl; (intro Y hsY hGY hzY)))
              go_meet
              exact ⟨n4, qc, qf, some ⟨b9, 0, none⟩, jc, jf, N.ends.length, rfl, trB_new hZ hC hF hV hsY hGY hsz2, hS.grown hGY hS.size (fun k e => by cases e; exact hn4), hn4⟩
      · have hBx := below_al (Below.refl A0.heap.size A0) (Nat.le_refl _) (.cells #[.slice none 0 0, .slice none 0 0, .slice none 0 0, .slice none 0 0] 53)
        have hZ : Row oV (A0.alloc (.cells #[.slice none 0 0, .slice none 0 0, .slice none 0 0, .slice none 0 0] 53)) A0.heap.size 53 [on, on, on, on] := Row.new _ _ rfl
        have hn4 : W1.heap.size ≤ A0.heap.size := hS.size
        refine allocD (d := 4) (ob := (.cells #[.slice none 0 0, .slice none 0 0, .slice none 0 0, .slice none 0 0] 53)) rfl rfl (by first | rfl | kernel_rfl) ?_
        generalize (A0.alloc (.cells #[.slice none 0 0, .slice none 0 0, .slice none 0 0, .slice none 0 0] 53)) = A26 at *
        obtain ⟨n4, hn4e⟩ : ∃ b, b = A0.heap.size := ⟨_, rfl⟩
        rw [← hn4e] at hZ hn4 ⊢
        replace hS := hS.trans (hBx.mono hS.size)
        refine hK.out _ _ hS fun _ => ?_
        clear hK hBx
        simp only [List.setIfInBounds_toArray, List.set_cons_succ, List.set_cons_zero]
        refine headsT_ready (rs := [2, 9]) (by kernel_rfl) (by simp) (AllReadyT.cons (by omega) rfl (fun K' hK => ?_) (AllReadyT.cons (by omega) rfl (fun K' hK => ?_) AllReadyT.nil))
        · refine callD (d := 16) (g := 47) (args := #[.slice pc N.cls.length kc]) rfl rfl (by first | kernel_rfl | (simp [execOp, resolve, invoke, Act.eval]) | go_simp) ?_
          refine (cloneCls A26 _ N.cls (HF.out _ hS).2.2.2 (by omega)).mono ?_
          rintro e A27 ⟨qc, jc, rfl, hC, hBx⟩
          replace hC := hC.mono hS.size
          replace hZ := hZ.below hBx hZ.lt
          replace hS := hS.trans (hBx.mono hS.size)
          refine ⟨_, rfl, hK.out _ _ hS fun _ => ?_⟩
          clear hK hBx
          simp only [List.setIfInBounds_toArray, List.set_cons_succ, List.set_cons_zero]
          refine headsT_ready (rs := [5, 9]) (by kernel_rfl) (by simp) (AllReadyT.cons (by omega) rfl (fun K' hK => ?_) (AllReadyT.cons (by omega) rfl (fun K' hK => ?_) AllReadyT.nil))
          · refine callD (d := 19) (g := 48) (args := #[.slice pe N.ends.length ke]) rfl rfl (by first | kernel_rfl | (simp [execOp, resolve, invoke, Act.eval]) | go_simp) ?_
            refine (cloneBools A27 _ N.ends (HF.out _ hS).2.2.1 (by omega)).mono ?_
            rintro e A28 ⟨qf, jf, rfl, hF, hBx⟩
            replace hF := hF.mono hS.size
            replace hC := hC.below' hBx
            replace hZ := hZ.below hBx hZ.lt
            replace hS := hS.trans (hBx.mono hS.size)
            refine ⟨_, rfl, hK.out _ _ hS fun _ => ?_⟩
            clear hK hBx
            simp only [List.setIfInBounds_toArray, List.set_cons_succ, List.set_cons_zero]
            refine headsT_ready (rs := [9]) (by kernel_rfl) (by simp) (AllReadyT.cons (by omega) rfl (fun K' hK => ?_) AllReadyT.nil)
            · have hBx := below_al (Below.refl A28.heap.size A28) (Nat.le_refl _) (.cells ((List.replicate N.ends.length on).map oV).toArray 29)
              have hV : Mem.Own oV (A28.alloc (.cells ((List.replicate N.ends.length on).map oV).toArray 29)) W1.heap.size 29 (.slice (some ⟨A28.heap.size, 0, none⟩) N.ends.length N.ends.length) (List.replicate N.ends.length on) := by
                have h := Own.new (f := oV) (l := List.replicate N.ends.length on) A28 (.cells ((List.replicate N.ends.length on).map oV).toArray 29) (e := 29) W1.heap.size hS.size rfl (by simp [maxLen]; omega)
                simpa using h
              refine valueD (d := 23) (v := .slice (some ⟨A28.heap.size, 0, none⟩) N.ends.length N.ends.length) (w' := A28.alloc (.cells ((List.replicate N.ends.length on).map oV).toArray 29)) rfl rfl (by have q0 := hmk.out (A28); first | (simp [execOp, Act.eval, q0]; done) | go_simp) ?_
              generalize (A28.alloc (.cells ((List.replicate N.ends.length on).map oV).toArray 29)) = A29 at *
              have hlo9 : W1.heap.size ≤ A28.heap.size := hS.size
              obtain ⟨b9, hb9⟩ : ∃ b, b = A28.heap.size := ⟨_, rfl⟩
              rw [← hb9] at hV ⊢
              replace hC := hC.below' hBx
              replace hF := hF.below' hBx
              replace hZ := hZ.below hBx hZ.lt
              replace hS := hS.trans (hBx.mono hS.size)
              refine hK.out _ _ hS fun _ => ?_
              clear hK hBx
              simp only [List.setIfInBounds_toArray, List.set_cons_succ, List.set_cons_zero]
              refine headsT_takeD (i := 10) (d := 24) (v := .agg #[.slice qc N.cls.length jc, .slice none 0 0, .slice qf N.ends.length jf, .slice (some ⟨b9, 0, none⟩) N.ends.length N.ends.length]) (by kernel_rfl) rfl rfl (by omega) (by kernel_rfl) (by kernel_rfl) (fun c a w h => h) (yieldsIf_op rfl (fun w => by first | rfl | kernel_rfl | (go_simp; done))) hS ?_
              simp only [List.setIfInBounds_toArray, List.set_cons_succ, List.set_cons_zero]
              refine headsT_tail (by kernel_rfl) ?_
              simp only [List.drop]
              have hsz2 := hS.size
              go_wp2_with (((with_reducible refine store_agg (f := oV) (l := [on, on, on, on]) (l' := [slO qc N.cls.length jc, on, slO qf N.ends.length jf, slO (some ⟨b9, 0, none⟩) N.ends.length N.ends.length]) (t := 53) (C := #[.slice qc N.cls.length jc, .slice none 0 0, .slice qf N.ends.length jf, .slice (some ⟨b9, 0, none⟩) N.ends.length N.ends.length]) aggTr (.tmp 4) (.tmp 24) ?_ ?_ n4 ?_ ?_ ?_ hZ ?_ oV_one ?_); rfl; rfl; rfl; rfl; rfl; rfl; (intro Y hsY hGY hzY)))
              go_meet
              exact ⟨n4, qc, qf, some ⟨b9, 0, none⟩, jc, jf, N.ends.length, rfl, trB_new hZ hC hF hV hsY hGY hsz2, hS.grown hGY hS.size (fun k e => by cases e; exact hn4), hn4⟩
          · have hBx := below_al (Below.refl A27.heap.size A27) (Nat.le_refl _) (.cells ((List.replicate N.ends.length on).map oV).toArray 29)
            have hV : Mem.Own oV (A27.alloc (.cells ((List.replicate N.ends.length on).map oV).toArray 29)) W1.heap.size 29 (.slice (some ⟨A27.heap.size, 0, none⟩) N.ends.length N.ends.length) (List.replicate N.ends.length on) := by
              have h := Own.new (f := oV) (l := List.replicate N.ends.length on) A27 (.cells ((List.replicate N.ends.length on).map oV).toArray 29) (e := 29) W1.heap.size hS.size rfl (by simp [maxLen]; omega)
              simpa using h
            refine valueD (d := 23) (v := .slice (some ⟨A27.heap.size, 0, none⟩) N.ends.length N.ends.length) (w' := A27.alloc (.cells ((List.replicate N.ends.length on).map oV).toArray 29)) rfl rfl (by have q0 := hmk.out (A27); first | (simp [execOp, Act.eval, q0]; done) | go_simp) ?_
            generalize (A27.alloc (.cells ((List.replicate N.ends.length on).map oV).toArray 29)) = A30 at *
            have hlo9 : W1.heap.size ≤ A27.heap.size := hS.size
            obtain ⟨b9, hb9⟩ : ∃ b, b = A27.heap.size := ⟨_, rfl⟩
            rw [← hb9] at hV ⊢
            replace hC := hC.below' hBx
            replace hZ := hZ.below hBx hZ.lt
            replace hS := hS.trans (hBx.mono hS.size)
            refine hK.out _ _ hS fun _ => ?_
            clear hK hBx
            simp only [List.setIfInBounds_toArray, List.set_cons_succ, List.set_cons_zero]
            refine headsT_ready (rs := [5]) (by kernel_rfl) (by simp) (AllReadyT.cons (by omega) rfl (fun K' hK => ?_) AllReadyT.nil)
            · refine callD (d := 19) (g := 48) (args := #[.slice pe N.ends.length ke]) rfl rfl (by first | kernel_rfl | (simp [execOp, resolve, invoke, Act.eval]) | go_simp) ?_
              refine (cloneBools A30 _ N.ends (HF.out _ hS).2.2.1 (by omega)).mono ?_
              rintro e A31 ⟨qf, jf, rfl, hF, hBx⟩
              replace hF := hF.mono hS.size
              replace hC := hC.below' hBx
              replace hV := hV.below' hBx
              replace hZ := hZ.below hBx hZ.lt
              replace hS := hS.trans (hBx.mono hS.size)
              refine ⟨_, rfl, hK.out _ _ hS fun _ => ?_⟩
              clear hK hBx
              simp only [List.setIfInBounds_toArray, List.set_cons_succ, List.set_cons_zero]
              refine headsT_takeD (i := 10) (d := 24) (v := .agg #[.slice qc N.cls.length jc, .slice none 0 0, .slice qf N.ends.length jf, .slice (some ⟨b9, 0, none⟩) N.ends.length N.ends.length]) (by kernel_rfl) rfl rfl (by omega) (by kernel_rfl) (by kernel_rfl) (fun c a w h => h) (yieldsIf_op rfl (fun w => by first | rfl | kernel_rfl | (go_simp; done))) hS ?_
              simp only [List.setIfInBounds_toArray, List.set_cons_succ, List.set_cons_zero]
              refine headsT_tail (by kernel_rfl) ?_
              simp only [List.drop]
              have hsz2 := hS.size
              go_wp2_with (((with_reducible refine store_agg (f := oV) (l := [on, on, on, on]) (l' := [slO qc N.cls.length jc, on, slO qf N.ends.length jf, slO (some ⟨b9, 0, none⟩) N.ends.length N.ends.length]) (t := 53) (C := #[.slice qc N.cls.length jc, .slice none 0 0, .slice qf N.ends.length jf, .slice (some ⟨b9, 0, none⟩) N.ends.length N.ends.length]) aggTr (.tmp 4) (.tmp 24) ?_ ?_ n4 ?_ ?_ ?_ hZ ?_ oV_one ?_); rfl; rfl; rfl; rfl; rfl; rfl; (intro Y hsY hGY hzY)))
              go_meet
              exact ⟨n4, qc, qf, some ⟨b9, 0, none⟩, jc, jf, N.ends.length, rfl, trB_new hZ hC hF hV hsY hGY hsz2, hS.grown hGY hS.size (fun k e => by cases e; exact hn4), hn4⟩
        · have hBx := below_al (Below.refl A26.heap.size A26) (Nat.le_refl _) (.cells ((List.replicate N.ends.length on).map oV).toArray 29)
          have hV : Mem.Own oV (A26.alloc (.cells ((List.replicate N.ends.length on).map oV).toArray 29)) W1.heap.size 29 (.slice (some ⟨A26.heap.size, 0, none⟩) N.ends.length N.ends.length) (List.replicate N.ends.length on) := by
            have h := Own.new (f := oV) (l := List.replicate N.ends.length on) A26 (.cells ((List.replicate N.ends.length on).map oV).toArray 29) (e := 29) W1.heap.size hS.size rfl (by simp [maxLen]; omega)
            simpa using h
          refine valueD (d := 23) (v := .slice (some ⟨A26.heap.size, 0, none⟩) N.ends.length N.ends.length) (w' := A26.alloc (.cells ((List.replicate N.ends.length on).map oV).toArray 29)) rfl rfl (by have q0 := hmk.out (A26); first | (simp [execOp, Act.eval, q0]; done) | go_simp) ?_
          generalize (A26.alloc (.cells ((List.replicate N.ends.length on).map oV).toArray 29)) = A32 at *
          have hlo9 : W1.heap.size ≤ A26.heap.size := hS.size
          obtain ⟨b9, hb9⟩ : ∃ b, b = A26.heap.size := ⟨_, rfl⟩
          rw [← hb9] at hV ⊢
          replace hZ := hZ.below hBx hZ.lt
          replace hS := hS.trans (hBx.mono hS.size)
          refine hK.out _ _ hS fun _ => ?_
          clear hK hBx
          simp only [List.setIfInBounds_toArray, List.set_cons_succ, List.set_cons_zero]
          refine headsT_ready (rs := [2]) (by kernel_rfl) (by simp) (AllReadyT.cons (by omega) rfl (fun K' hK => ?_) AllReadyT.nil)
          · refine callD (d := 16) (g := 47) (args := #[.slice pc N.cls.length kc]) rfl rfl (by first | kernel_rfl | (simp [execOp, resolve, invoke, Act.eval]) | go_simp) ?_
            refine (cloneCls A32 _ N.cls (HF.out _ hS).2.2.2 (by omega)).mono ?_
            rintro e A33 ⟨qc, jc, rfl, hC, hBx⟩
            replace hC := hC.mono hS.size
            replace hV := hV.below' hBx
            replace hZ := hZ.below hBx hZ.lt
            replace hS := hS.trans (hBx.mono hS.size)
            refine ⟨_, rfl, hK.out _ _ hS fun _ => ?_⟩
            clear hK hBx
            simp only [List.setIfInBounds_toArray, List.set_cons_succ, List.set_cons_zero]
            refine headsT_ready (rs := [5]) (by kernel_rfl) (by simp) (AllReadyT.cons (by omega) rfl (fun K' hK => ?_) AllReadyT.nil)
            · refine callD (d := 19) (g := 48) (args := #[.slice pe N.ends.length ke]) rfl rfl (by first | kernel_rfl | (simp [execOp, resolve, invoke, Act.eval]) | go_simp) ?_
              refine (cloneBools A33 _ N.ends (HF.out _ hS).2.2.1 (by omega)).mono ?_
              rintro e A34 ⟨qf, jf, rfl, hF, hBx⟩
              replace hF := hF.mono hS.size
              replace hC := hC.below' hBx
              replace hV := hV.below' hBx
              replace hZ := hZ.below hBx hZ.lt
              replace hS := hS.trans (hBx.mono hS.size)
              refine ⟨_, rfl, hK.out _ _ hS fun _ => ?_⟩
              clear hK hBx
              simp only [List.setIfInBounds_toArray, List.set_cons_succ, List.set_cons_zero]
              refine headsT_takeD (i := 10) (d := 24) (v := .agg #[.slice qc N.cls.length jc, .slice none 0 0, .slice qf N.ends.length jf, .slice (some ⟨b9, 0, none⟩) N.ends.length N.ends.length]) (by kernel_rfl) rfl rfl (by omega) (by kernel_rfl) (by kernel_rfl) (fun c a w h => h) (yieldsIf_op rfl (fun w => by first | rfl | kernel_rfl | (go_simp; done))) hS ?_
              simp only [List.setIfInBounds_toArray, List.set_cons_succ, List.set_cons_zero]
              refine headsT_tail (by kernel_rfl) ?_
              simp only [List.drop]
              have hsz2 := hS.size
              go_wp2_with (((with_reducible refine store_agg (f := oV) (l := [on, on, on, on]) (l' := [slO qc N.cls.length jc, on, slO qf N.ends.length jf, slO (some ⟨b9, 0, none⟩) N.ends.length N.ends.length]) (t := 53) (C := #[.slice qc N.cls.length jc, .slice none 0 0, .slice qf N.ends.length jf, .slice (some ⟨b9, 0, none⟩) N.ends.length N.ends.length]) aggTr (.tmp 4) (.tmp 24) ?_ ?_ n4 ?_ ?_ ?_ hZ ?_ oV_one ?_); rfl; rfl; rfl; rfl; rfl; rfl; (intro Y hsY hGY hzY)))
              go_meet
              exact ⟨n4, qc, qf, some ⟨b9, 0, none⟩, jc, jf, N.ends.length, rfl, trB_new hZ hC hF hV hsY hGY hsz2, hS.grown hGY hS.size (fun k e => by cases e; exact hn4), hn4⟩
    obtain ⟨n4, qc, qf, qe, jc, jf, je, rfl, hT, hX, hn4⟩ := hcut
    obtain ⟨X0, hz0⟩ : ∃ Z, Z = wc := ⟨_, rfl⟩
    subst hz0
    obtain ⟨B, hB0⟩ : ∃ B, B = W1.heap.size := ⟨_, rfl⟩
    rw [← hB0] at hT hn4
    have HG : Hid (∀ X : World, Below B W1 X → X.cell? ⟨w.heap.size, 1, none⟩ = some (.slice pr N.rows.length kr) ∧ RdR X (.slice pr N.rows.length kr) N.rows ∧ Row oV X (w.heap.size + 1) 53 [on, on, on, on] ∧ Below w.heap.size w X) := Lib.hid fun X hX => by
      rw [hB0] at hX
      have h := HC.out X (hX1.out.trans (hX.mono hX1.out.size))
      exact ⟨h.2.1, h.2.2.2.2.2.2.1, h.2.2.2.1, h.2.2.2.2.2.2.2⟩
    have hlt2 : w.heap.size + 1 < B := by have := hX1.out.size; have := hsz.out; omega
    rw [← hB0] at hX
    have hBs : B ≤ X0.heap.size := hX.size |> fun h => by omega
    replace hT := Lib.hid hT
    replace hX := Lib.hid hX
    clear HF HC HE hmk HV hBW hsz hX1 hB hB0
    obtain ⟨c1, _, _, _⟩ := HG.out X0 hX.out
    go_upto_region 5 with (fail)
    clear c1
    go_loopw [28] (fun s28 wr => ∃ (k : Nat) (pm : Option Addr) (km : Nat) (us : List OC), k ≤ N.rows.length ∧ s28 = .int .i64 k ∧ Hid (us.length = k ∧ TrB wr B n4 (slO qc N.cls.length jc) (slO pm us.length km) (slO qf N.ends.length jf) (slO qe N.ends.length je) N.cls us ((N.rows.take k).map fun r => r.map Ce.mv) N.ends (List.replicate N.ends.length [])) ∧ Below B W1 wr) (fun i _ => N.rows.length - (intOf i).toNat)
    case atStart => exact ⟨0, none, 0, [], by omega, rfl, Lib.hid ⟨rfl, hT.out⟩, hX.out⟩
    case round =>
      clear hT hX hBs
      obtain ⟨k, pm, km, us, hk, rfl, HT, hX⟩ := hrel
      by_cases hlt : k < N.rows.length
      · have hq : (k : Int) < (N.rows.length : Int) := by omega
        obtain ⟨c1, hR, hz, hw⟩ := HG.out wr hX
        obtain ⟨rb, ro, u, rfl, hu, hru, _, lrb⟩ := hR.elem k hlt
        obtain ⟨pu, ku, rfl⟩ := hru.slice
        have hrn := hrow.out k hlt
        have hmt : Hid ((N.rows.take (k + 1)).map (fun r => r.map Ce.mv) = (N.rows.take k).map (fun r => r.map Ce.mv) ++ [(N.rows[k]'hlt).map Ce.mv]) := Lib.hid (by rw [List.take_succ_eq_append_getElem hlt, List.map_append]; rfl)
        have hRow := Lib.hid hru
        generalize N.rows[k]'hlt = row at *
        have hrn2 : row.length ≤ 256 := by omega
        replace hrn := Lib.hid hrn
        have hmk := make_mv wr row.length (by omega)
        obtain ⟨ob, hob⟩ : ∃ ob, ob = Obj.cells (((List.replicate row.length ((0 : Int), on)).flatMap mvL).map oV).toArray 98 := ⟨_, rfl⟩
        rw [← hob] at hmk
        have hRm : Row oV (wr.alloc ob) wr.heap.size 98 ((List.replicate row.length ((0 : Int), on)).flatMap mvL) := Row.new _ _ (by rw [hob])
        have hbm := below_al (Below.refl wr.heap.size wr) (Nat.le_refl _) ob
        clear hob hR hru c1
        go_upto_region 9 with (fail)
        generalize (wr.alloc ob) = Wm at *
        obtain ⟨Wk, hz0⟩ : ∃ Z, Z = wr := ⟨_, rfl⟩
        subst hz0
        obtain ⟨bm, hbme⟩ : ∃ b, b = Wk.heap.size := ⟨_, rfl⟩
        rw [← hbme] at hRm ⊢
        have hbm' : Below bm Wk Wm := by rw [hbme]; exact hbm
        have hXs : B ≤ bm := by rw [hbme]; exact Nat.le_trans HT.out.2.lo (Nat.le_refl _)
        have hHT : Hid (∀ X, Below bm Wk X → TrB X B n4 (slO qc N.cls.length jc) (slO pm us.length km) (slO qf N.ends.length jf) (slO qe N.ends.length je) N.cls us ((N.rows.take k).map fun r => r.map Ce.mv) N.ends (List.replicate N.ends.length []) ∧ RdK 3 ceL X (.slice pu row.length ku) row ∧ Below B W1 X) := Lib.hid fun X h => by
          rw [hbme] at h
          exact ⟨HT.out.2.below' h, hRow.out.below h, hX.trans (h.mono HT.out.2.lo)⟩
        have hlen := Lib.hid HT.out.1
        replace hRm := Lib.hid hRm
        replace hbm' := Lib.hid hbm'
        clear hmk hbm HT hX hz hw hu lrb hRow
        replace hbme := Lib.hid hbme
        go_loopw [37] (fun s37 wq => ∃ (m : Nat) (xs : List (Int × OC)), m ≤ row.length ∧ s37 = .int .i64 m ∧ Hid (xs.length = row.length ∧ Row oV wq bm 98 (xs.flatMap mvL) ∧ RowDone wq (bm + 1) xs row m ∧ ∀ i (h : i < xs.length), m ≤ i → xs[i] = (0, on)) ∧ Below bm Wk wq) (fun i _ => row.length - (intOf i).toNat)
        case atStart => exact ⟨0, List.replicate row.length (0, on), by omega, rfl, Lib.hid ⟨by simp, hRm.out, fun i _ _ h => by omega, fun i h _ => by simp⟩, hbm'.out⟩
        case round =>
          clear hRm hbm'
          obtain ⟨m, xs, hm, rfl, HX, hY⟩ := hrel
          by_cases hml : m < row.length
          · have hq2 : (m : Int) < (row.length : Int) := by omega
            obtain ⟨bc, oc, rfl, hA, hcap, lbc⟩ := (hHT.out wr hY).2.1.elem m hml
            have hmx : m < xs.length := by rw [HX.out.1]; exact hml
            have hx0 : Hid (xs[m]'hmx = (0, on)) := Lib.hid (HX.out.2.2.2 m hmx (Nat.le_refl _))
            have hmv : Hid (∀ {A C : World} (t : Int) (u : OC), RowDone A (bm + 1) xs row m → (∀ v l, OwnK 2 piL A (bm + 1) 100 v l → OwnK 2 piL C (bm + 1) 100 v l) → t = (row[m]'hml).mv.tgt → OwnK 2 piL C (bm + 1) 100 (oV u) (row[m]'hml).mv.out → RowDone C (bm + 1) (xs.set m (t, u)) row (m + 1)) := Lib.hid fun t u h1 h2 h3 h4 => h1.step h2 hml h3 h4
            have hrest : Hid (∀ (t : Int) (u : OC) i (h : i < (xs.set m (t, u)).length), m + 1 ≤ i → (xs.set m (t, u))[i] = (0, on)) := Lib.hid fun t u i h h2 => by
              rw [List.getElem_set_ne (by omega)]
              exact HX.out.2.2.2 i (by simpa using h) (by omega)
            generalize row[m]'hml = c at *
            have hsz := hY.size
            have hZ9 : Row oV (wr.alloc (.cells #[.int .i64 0, .int .i64 0, .int .u8 0] 75)) wr.heap.size 75 [oi 0, oi 0, ⟨.int .u8 0, rfl⟩] := Row.new _ _ rfl
            go_upto_region 11 with (first
              | ((with_reducible refine load_agg (f := oV) (l := ceL c) (C := ceA c) aggCe (.tmp 40) ?_ ?_ bc (oc + m * 3) ?_ hA rfl ?_); rfl; rfl; rfl)
              | ((with_reducible refine store_agg (f := oV) (l := [oi 0, oi 0, ⟨.int .u8 0, rfl⟩]) (l' := ceL c) (t := 75) (C := ceA c) aggCe (.tmp 9) (.tmp 41) ?_ ?_ wr.heap.size ?_ ?_ ?_ hZ9 ?_ oV_one ?_); rfl; rfl; rfl; rfl; rfl; rfl; (intro X1 hs9 hG9 hz9)))
            have hb9 := below_row (Below.refl wr.heap.size wr) hG9
            have hbl : bm < wr.heap.size := HX.out.2.1.lt
            have hR1 := HX.out.2.1.below hb9 hbl
            have hD1 : RowDone X1 (bm + 1) xs row m := HX.out.2.2.1.mono fun v l h => h.below' hb9
            have hY1 := hY.trans (hb9.mono (by have := hbme.out; omega))
            have hxl := Lib.hid HX.out.1
            rw [put_none]
            clear hZ9 hG9 hz9 hA HX hY hb9
            obtain ⟨n9, hn9⟩ : ∃ b, b = wr.heap.size := ⟨_, rfl⟩
            rw [← hn9] at hs9 hbl ⊢
            clear hn9 hsz
            have t0 : X1.cell? ⟨n9, 0, none⟩ = some (.int .i64 c.tgt) := by rw [hs9.cell?]; rfl
            have e0 : X1.cell? ⟨bm, m * 2, none⟩ = some (.int .i64 0) := by rw [hR1.cell?, mv_get1 xs m hmx, hx0.out]; rfl
            have f0 := hR1.frozen (m * 2)
            have hqm : m < row.length := hml
            have hR2 : Row oV (X1.setCell ⟨bm, m * 2, none⟩ (.int .i64 c.tgt)) bm 98 ((xs.set m (c.tgt, on)).flatMap mvL) := by
              have h := hR1.set (m * 2) (oi c.tgt)
              rw [mv_set1 c.tgt xs m hmx, hx0.out] at h
              exact h
            have hg2 := grown_one X1 bm (m * 2) (.int .i64 c.tgt)
            have hs92 := hs9.grown hg2 (fun e => by injection e with e; omega)
            have hD2 : RowDone (X1.setCell ⟨bm, m * 2, none⟩ (.int .i64 c.tgt)) (bm + 1) xs row m := hD1.mono fun v l h => h.far (by omega) hg2
            have hY2 := below_set hY1 (b := bm) (m * 2) (Nat.le_refl _) (.int .i64 c.tgt)
            have hsz2 := hg2.size
            go_upto_region 12 with (fail)
            have hbl2 : bm < X1.heap.size := hR1.lt
            generalize (X1.setCell ⟨bm, m * 2, none⟩ (.int .i64 c.tgt)) = X2 at *
            clear t0 e0 f0 hR1 hg2 hs9 hD1 hY1 hx0
            have ca : X2.cell? ⟨n9, 1, none⟩ = some (.int .i64 c.act) := by rw [hs92.cell?]; rfl
            have cb : X2.cell? ⟨n9, 2, none⟩ = some (.int .u8 (c.b.toNat : Int)) := by rw [hs92.cell?]; rfl
            have hmx2 : m < (xs.set m (c.tgt, on)).length := by rw [List.length_set]; exact hmx
            have hl2 : Hid (∀ (t : Int) (u : OC), (xs.set m (t, u)).length = row.length) := Lib.hid fun t u => by rw [List.length_set]; exact hxl.out
            replace hR2 := Lib.hid hR2
            replace hD2 := Lib.hid hD2
            have hn9l : n9 < X2.heap.size := hs92.lt
            clear hs92
            by_cases a0 : c.act = 0
            · have htg : c.mv.tgt = c.tgt := by unfold Ce.mv; exact if_neg (by omega)
              have hot : c.mv.out = [⟨true, 0⟩] := by unfold Ce.mv; exact if_pos a0
              have hR3 := hR2.out.alloc (.cells #[.bool true, .int .u8 0] 100)
              have e1 : (X2.alloc (.cells #[.bool true, .int .u8 0] 100)).cell? ⟨bm, m * 2 + 1, none⟩ = some (.slice none 0 0) := by rw [hR3.cell?, mv_get2 _ m hmx2, List.getElem_set_self]; rfl
              have f1 := hR3.frozen (m * 2 + 1)
              have hP := piece_new X2 (bm + 1) ⟨true, 0⟩ (by omega)
              have hY3 := hY2.alloc (by have := hbme.out; have := hY2.size; omega) (.cells #[.bool true, .int .u8 0] 100)
              have hg3 := grown_one (X2.alloc (.cells #[.bool true, .int .u8 0] 100)) bm (m * 2 + 1) (.slice (some ⟨X2.heap.size, 0, none⟩) 1 1)
              have hFin : Hid (∀ X, X = (X2.alloc (.cells #[.bool true, .int .u8 0] 100)).setCell ⟨bm, m * 2 + 1, none⟩ (.slice (some ⟨X2.heap.size, 0, none⟩) 1 1) → Row oV X bm 98 ((xs.set m (c.tgt, slO (some ⟨X2.heap.size, 0, none⟩) 1 1)).flatMap mvL) ∧ RowDone X (bm + 1) (xs.set m (c.tgt, slO (some ⟨X2.heap.size, 0, none⟩) 1 1)) row (m + 1) ∧ Below bm Wk X) := Lib.hid fun X hXe => by
                subst hXe
                refine ⟨?_, hmv.out _ _ hD2.out (fun v l h => (h.below' (below_al (Below.refl _ _) (Nat.le_refl _) _)).far (by omega) hg3) htg.symm ?_, below_set hY3 (b := bm) (m * 2 + 1) (Nat.le_refl _) _⟩
                · have h := hR3.set (m * 2 + 1) (slO (some ⟨X2.heap.size, 0, none⟩) 1 1)
                  rw [mv_set2 _ _ m hmx2, List.getElem_set_self, List.set_set] at h
                  exact h
                · rw [hot]
                  exact hP.far (by omega) hg3
              clear hR3 hP hY3 hg3 htg hot hR2 hD2 hmv
              go_upto_region 19 with (fail)
              obtain ⟨z1, z2, z3⟩ := hFin.out _ rfl
              generalize ((X2.alloc (.cells #[.bool true, .int .u8 0] 100)).setCell ⟨bm, m * 2 + 1, none⟩ (.slice (some ⟨X2.heap.size, 0, none⟩) 1 1)) = X3 at *
              replace z1 := Lib.hid z1
              replace z2 := Lib.hid z2
              clear hFin e1 f1 ca cb
              go_wp2_with fail
              go_roundw
              case rel => exact ⟨m + 1, _, by omega, by go_num, Lib.hid ⟨hl2.out _ _, z1.out, z2.out, hrest.out _ _⟩, z3⟩
              case measure => simp [intOf] <;> omega
            have a0' : (c.act == 0) = false := by simpa using a0
            by_cases a2 : c.act = 2
            · have htg : c.mv.tgt = c.tgt := by unfold Ce.mv; exact if_neg (by omega)
              have hot : c.mv.out = [⟨false, c.b⟩] := by unfold Ce.mv; exact (if_neg a0).trans (if_pos a2)
              have hR3 := hR2.out.alloc (.cells #[.bool false, .int .u8 (c.b.toNat : Int)] 100)
              have e1 : (X2.alloc (.cells #[.bool false, .int .u8 (c.b.toNat : Int)] 100)).cell? ⟨bm, m * 2 + 1, none⟩ = some (.slice none 0 0) := by rw [hR3.cell?, mv_get2 _ m hmx2, List.getElem_set_self]; rfl
              have f1 := hR3.frozen (m * 2 + 1)
              have hP := piece_new X2 (bm + 1) ⟨false, c.b⟩ (by omega)
              have hY3 := hY2.alloc (by have := hbme.out; have := hY2.size; omega) (.cells #[.bool false, .int .u8 (c.b.toNat : Int)] 100)
              have hg3 := grown_one (X2.alloc (.cells #[.bool false, .int .u8 (c.b.toNat : Int)] 100)) bm (m * 2 + 1) (.slice (some ⟨X2.heap.size, 0, none⟩) 1 1)
              have hFin : Hid (∀ X, X = (X2.alloc (.cells #[.bool false, .int .u8 (c.b.toNat : Int)] 100)).setCell ⟨bm, m * 2 + 1, none⟩ (.slice (some ⟨X2.heap.size, 0, none⟩) 1 1) → Row oV X bm 98 ((xs.set m (c.tgt, slO (some ⟨X2.heap.size, 0, none⟩) 1 1)).flatMap mvL) ∧ RowDone X (bm + 1) (xs.set m (c.tgt, slO (some ⟨X2.heap.size, 0, none⟩) 1 1)) row (m + 1) ∧ Below bm Wk X) := Lib.hid fun X hXe => by
                subst hXe
                refine ⟨?_, hmv.out _ _ hD2.out (fun v l h => (h.below' (below_al (Below.refl _ _) (Nat.le_refl _) _)).far (by omega) hg3) htg.symm ?_, below_set hY3 (b := bm) (m * 2 + 1) (Nat.le_refl _) _⟩
                · have h := hR3.set (m * 2 + 1) (slO (some ⟨X2.heap.size, 0, none⟩) 1 1)
                  rw [mv_set2 _ _ m hmx2, List.getElem_set_self, List.set_set] at h
                  exact h
                · rw [hot]
                  exact hP.far (by omega) hg3
              clear hR3 hP hY3 hg3 htg hot hR2 hD2 hmv
              go_upto_region 19 with (fail)
              obtain ⟨z1, z2, z3⟩ := hFin.out _ rfl
              generalize ((X2.alloc (.cells #[.bool false, .int .u8 (c.b.toNat : Int)] 100)).setCell ⟨bm, m * 2 + 1, none⟩ (.slice (some ⟨X2.heap.size, 0, none⟩) 1 1)) = X3 at *
              replace z1 := Lib.hid z1
              replace z2 := Lib.hid z2
              clear hFin e1 f1 ca cb
              go_wp2_with fail
              go_roundw
              case rel => exact ⟨m + 1, _, by omega, by go_num, Lib.hid ⟨hl2.out _ _, z1.out, z2.out, hrest.out _ _⟩, z3⟩
              case measure => simp [intOf] <;> omega
            have a2' : (c.act == 2) = false := by simpa using a2
            have hot : c.mv.out = [] := by unfold Ce.mv; exact (if_neg a0).trans (if_neg a2)
            by_cases a3 : c.act = 3
            · have htg : c.mv.tgt = -1 := by unfold Ce.mv; exact if_pos a3
              have e1 : X2.cell? ⟨bm, m * 2, none⟩ = some (.int .i64 c.tgt) := by rw [hR2.out.cell?, mv_get1 _ m hmx2, List.getElem_set_self]; rfl
              have f1 := hR2.out.frozen (m * 2)
              have hg3 := grown_one X2 bm (m * 2) (.int .i64 (-1))
              have hFin : Hid (∀ X, X = X2.setCell ⟨bm, m * 2, none⟩ (.int .i64 (-1)) → Row oV X bm 98 ((xs.set m (-1, on)).flatMap mvL) ∧ RowDone X (bm + 1) (xs.set m (-1, on)) row (m + 1) ∧ Below bm Wk X) := Lib.hid fun X hXe => by
                subst hXe
                refine ⟨?_, hmv.out _ _ hD2.out (fun v l h => h.far (by omega) hg3) htg.symm ?_, below_set hY2 (b := bm) (m * 2) (Nat.le_refl _) _⟩
                · have h := hR2.out.set (m * 2) (oi (-1))
                  rw [mv_set1 _ _ m hmx2, List.getElem_set_self, List.set_set] at h
                  exact h
                · rw [hot]
                  exact OwnK.nil _ _ _
              clear hg3 htg hot hR2 hD2 hmv a0 a2
              go_upto_region 19 with (fail)
              obtain ⟨z1, z2, z3⟩ := hFin.out _ rfl
              generalize (X2.setCell ⟨bm, m * 2, none⟩ (.int .i64 (-1))) = X3 at *
              replace z1 := Lib.hid z1
              replace z2 := Lib.hid z2
              clear hFin e1 f1 ca cb
              go_wp2_with fail
              go_roundw
              case rel => exact ⟨m + 1, _, by omega, by go_num, Lib.hid ⟨hl2.out _ _, z1.out, z2.out, hrest.out _ _⟩, z3⟩
              case measure => simp [intOf] <;> omega
            · have a3' : (c.act == 3) = false := by simpa using a3
              have htg : c.mv.tgt = c.tgt := by unfold Ce.mv; exact if_neg a3
              have z2 : Hid (RowDone X2 (bm + 1) (xs.set m (c.tgt, on)) row (m + 1)) := Lib.hid (hmv.out _ _ hD2.out (fun v l h => h) htg.symm (by rw [hot]; exact OwnK.nil _ _ _))
              clear htg hot hD2 hmv a0 a2 a3
              go_upto_region 19 with (fail)
              clear ca cb
              go_wp2_with fail
              go_roundw
              case rel => exact ⟨m + 1, _, by omega, by go_num, Lib.hid ⟨hl2.out _ _, hR2.out, z2.out, hrest.out _ _⟩, hY2⟩
              case measure => simp [intOf] <;> omega
          · obtain rfl : m = row.length := by omega
            have hq2 : ¬ (row.length : Int) < (row.length : Int) := by omega
            have hB1 := Nat.le_trans hXs (Nat.le_refl bm)
            obtain ⟨hT1, _, hX9⟩ := hHT.out wr hY
            have hu : RowAt wr B (slO (some ⟨bm, 0, none⟩) row.length row.length) (row.map Ce.mv) := by
              have h1 := OwnK.ofRow HX.out.2.1 hXs (by rw [HX.out.1]; simp [maxLen]; omega)
              rw [HX.out.1] at h1
              refine ⟨xs, by rw [HX.out.1, List.length_map], h1, fun i h h2 => ?_⟩
              have h3 := HX.out.2.2.1 i h (by rw [← HX.out.1]; exact h) (by rw [← HX.out.1]; exact h)
              rw [List.getElem_map]
              exact ⟨h3.1, h3.2.mono (by omega)⟩
            have c9 : wr.cell? ⟨n4, 1, none⟩ = some (.slice pm us.length km) := by rw [hT1.box.cell?]; rfl
            have hTo := hT1.o
            have hlo9 := hT1.lo
            replace hT1 := Lib.hid hT1
            replace hu := Lib.hid hu
            have huk : us.length ≤ 64 := by have := hlen.out; omega
            have hls : Hid ((us ++ [slO (some ⟨bm, 0, none⟩) row.length row.length]).length = us.length + 1) := Lib.hid (by simp)
            clear HX hHT hY
            go_upto_region 21 with (at_builtin; (with_reducible refine append_one eltRows (.tmp 76) (.tmp 78) ?_ ?_ oV_one ?_ hTo (slO (some ⟨bm, 0, none⟩) row.length row.length) _ ?_ _ ?_ ?_ ?_ ?_ (us ++ [slO (some ⟨bm, 0, none⟩) row.length row.length]) ?_ ?_); rfl; rfl; rfl; rfl; rfl; (omega); (omega); (exact hlo9); rfl; (intro p3 c3 w3 hO4 hB4 hG4); (rw [hls.out] at hO4 ⊢); (have hMore := hT1.out.rowMore hu.out _ hO4 hG4); (have e9 : w3.cell? ⟨n4, 1, none⟩ = some (.slice pm us.length km) := by rw [hMore.1.cell?]; rfl); (have f9 := hMore.1.frozen 1))
            have hnew := Lib.hid hMore.2
            have hX10 := below_set (hX9.trans hB4) (b := n4) 1 hn4 (.slice p3 (us.length + 1) c3)
            have hl9 : Hid ((us ++ [slO (some ⟨bm, 0, none⟩) row.length row.length]).length = k + 1) := Lib.hid (by rw [List.length_append, hlen.out]; rfl)
            generalize (us ++ [slO (some ⟨bm, 0, none⟩) row.length row.length]) = us2 at *
            generalize (w3.setCell ⟨n4, 1, none⟩ (.slice p3 (us.length + 1) c3)) = X5 at *
            have hnew2 : Hid (TrB X5 B n4 (slO qc N.cls.length jc) (slO p3 us2.length c3) (slO qf N.ends.length jf) (slO qe N.ends.length je) N.cls us2 ((N.rows.take k).map (fun r => r.map Ce.mv) ++ [row.map Ce.mv]) N.ends (List.replicate N.ends.length [])) := Lib.hid (by rw [hls.out]; exact hnew.out)
            clear hMore e9 f9 hO4 hB4 hG4 c9 hTo hT1 hu hX9 hlo9
            go_wp2_with fail
            go_roundw
            case rel => exact ⟨k + 1, p3, c3, us2, by omega, by go_num, Lib.hid ⟨hl9.out, by rw [hmt.out]; exact hnew2.out⟩, hX10⟩
            case measure => simp [intOf] <;> omega
      · obtain rfl : k = N.rows.length := by omega
        have hq : ¬ (N.rows.length : Int) < (N.rows.length : Int) := by omega
        obtain ⟨c1, hR, hz, hw⟩ := HG.out wr hX
        have hT := HT.out.2
        have hbox := hT.box
        have hlo := hT.lo
        go_wp2_with (first
          | ((with_reducible refine load_agg (f := oV) (l := [slO qc N.cls.length jc, slO pm us.length km, slO qf N.ends.length jf, slO qe N.ends.length je]) (C := #[.slice qc N.cls.length jc, .slice pm us.length km, .slice qf N.ends.length jf, .slice qe N.ends.length je]) aggTr (.tmp 4) ?_ ?_ n4 0 ?_ hbox.at rfl ?_); rfl; rfl; rfl)
          | ((with_reducible refine store_agg (f := oV) (l := [on, on, on, on]) (l' := [slO qc N.cls.length jc, slO pm us.length km, slO qf N.ends.length jf, slO qe N.ends.length je]) (t := 53) (C := #[.slice qc N.cls.length jc, .slice pm us.length km, .slice qf N.ends.length jf, .slice qe N.ends.length je]) aggTr (.tmp 2) (.tmp 82) ?_ ?_ (w.heap.size + 1) ?_ ?_ ?_ hz ?_ oV_one ?_); rfl; rfl; rfl; rfl; rfl; rfl; (intro W9 hs9 hG9 hz9)))
        refine bodyPost_ret (v := .tuple #[.agg #[.slice qc N.cls.length jc, .slice pm us.length km, .slice qf N.ends.length jf, .slice qe N.ends.length je], .int .i64 0]) (results_agg2 (f := oV) (l := [slO qc N.cls.length jc, slO pm us.length km, slO qf N.ends.length jf, slO qe N.ends.length je]) (t := 3) rfl _ aggTr (w.heap.size + 1) 0 rfl hs9.at) rfl ?_
        have hfin := hT.rdAfter hG9 (Row_isT hz) (fun e => by injection e with e; omega)
        refine ⟨⟨_, _, rfl, by rw [hval.out]; rfl, ?_⟩, hw.grown hG9 hw.size (fun k e => by cases e; omega)⟩
        rw [ht.out]
        have e1 : (N.ends.map fun _ => ([] : List UInt8)) = List.replicate N.ends.length [] := by rw [List.map_const']
        rw [e1]
        rw [List.take_of_length_le (Nat.le_refl _)] at hfin
        exact hfin
end Go.Proofs.YtgflelodpcgmbaaGreatDoor
