/- The walk through a program: a statement that appends a field. -/
import Derived.Test.YtgflelodpcgmbaaGreatDoorMBound
import Derived.Deep.DeepCutAuto
namespace Go.Proofs.YtgflelodpcgmbaaGreatDoor
open Go.RowKit Mem
set_option maxRecDepth 100000

/-- the place at the beginning: live, string 0 is set -/
abbrev pl0 : List Bool := true :: vars0

set_option maxHeartbeats 8000000 in
theorem rStmt13 (w : World) (nm : ByteArray) (C : Array Value) (HC : Hid (C = (pl0.map Value.bool).toArray)) (pb rb qb wb bb sb so sc : Nat) (lf : Value) (stv pbv : Value) (hlf : lf = .pointer none)
    (hp0 : w.cell? ⟨pb, 0, none⟩ = some (.slice (some ⟨sb, so, none⟩) 1 sc)) (hpl : pb < w.heap.size) (hA : At oV w sb so (stC 13 0 nm (-1) (-1))) (hsl : sb < w.heap.size)
    (hr0 : w.cell? ⟨rb, 0, none⟩ = some (.slice (some ⟨qb, 0, none⟩) 1 1)) (hrl : rb < w.heap.size) (hq0 : w.cell? ⟨qb, 0, none⟩ = some (.bool false)) (hqf : w.frozen? ⟨qb, 0, none⟩ = false) (hql : qb < w.heap.size)
    (hb0 : w.cell? ⟨bb, 0, none⟩ = some (.func (.func 103) #[] #[pbv, stv])) (hbl : bb < w.heap.size) (hqb : qb ≠ bb) :
    Calls Tryz.prog 101 #[.int .i64 0, .agg C, lf, .pointer (some ⟨pb, 0, none⟩), .pointer (some ⟨rb, 0, none⟩), .pointer (some ⟨wb, 0, none⟩), .pointer (some ⟨bb, 0, none⟩)] w fun e w' =>
      ∃ C', e = .returned (.agg C') ∧ Hid (C' = (pl0.map Value.bool).toArray) ∧ w.grownBy w' (some qb) := by
  subst hlf
  have HF0 := Lib.hid (And.intro hp0 (And.intro hA (And.intro hr0 (And.intro hq0 (And.intro hqf hb0)))))
  clear hp0 hA hr0 hq0 hqf hb0
  go_enter Tryz.func101, Tryz.ntmps101
  go_upto_region 1 with (fail)
  obtain ⟨W, hW, hR, hZ, hB, hs⟩ : ∃ W, (w.alloc (.cells C 184)).alloc (.cells zPlC 184) = W ∧ Row Value.bool W w.heap.size 184 pl0 ∧ Row Value.bool W (w.heap.size + 1) 184 zPl ∧ Below w.heap.size w W ∧ W.heap.size = w.heap.size + 2 :=
    ⟨_, rfl, Row.alloc (Row.new w _ (by rw [HC.out])) _, heap_new' _ _ _ (by simp), ((Below.refl _ _).alloc (Nat.le_refl _) _).alloc (by simp) _, by simp⟩
  rw [hW]
  clear hW
  have p0 := (hB.cell (p := ⟨pb, 0, none⟩) hpl).trans HF0.out.1
  have hA1 := HF0.out.2.1.below hB hsl
  obtain ⟨C1, HC1⟩ : ∃ C1, Hid (C1 = ((stC 13 0 nm (-1) (-1)).map oV).toArray) := ⟨_, Lib.hid rfl⟩
  have hZ1 : Row oV (W.alloc (.cells zStmtC 125)) (w.heap.size + 2) 125 (stC 0 0 ⟨#[]⟩ 0 0) := by rw [← hs]; exact Row.new _ _ rfl
  go_upto_region 2 with (first
    | ((with_reducible refine load_agg (f := oV) (l := stC 13 0 nm (-1) (-1)) (aggStmtL _ _ _ _ _) (.tmp 20) ?_ ?_ sb so ?_ hA1 HC1.out ?_); rfl; rfl; rfl)
    | ((with_reducible refine store_agg (f := oV) (l := stC 0 0 ⟨#[]⟩ 0 0) (l' := stC 13 0 nm (-1) (-1)) (t := 125) (C := C1) (aggStmtL _ _ _ _ _) (.tmp 11) (.tmp 21) ?_ ?_ (w.heap.size + 2) ?_ ?_ ?_ hZ1 ?_ oV_one ?_); rfl; rfl; rfl; exact HC1.out; rfl; rfl; intro W5 hs5 hG5 hz5))
  have hB5 : Below w.heap.size w W5 := (hB.alloc hB.size (.cells zStmtC 125)).grown hG5 (by simp; omega) (fun k e => by cases e; omega)
  have hR5 : Row Value.bool W5 w.heap.size 184 pl0 := (hR.alloc _).grown hG5 (by simp)
  have hZ5 : Row Value.bool W5 (w.heap.size + 1) 184 zPl := (hZ.alloc _).grown hG5 (by simp)
  have hs5' : w.heap.size + 3 ≤ W5.heap.size := Nat.lt_of_lt_of_le (by omega) hs5.lt
  clear p0 hA1 hZ1 hR hZ hB hG5 hz5 hs
  have r0 := (hB5.cell (p := ⟨rb, 0, none⟩) hrl).trans HF0.out.2.2.1
  have q0 := (hB5.cell (p := ⟨qb, 0, none⟩) hql).trans HF0.out.2.2.2.1
  have qf := (hB5.frozen (p := ⟨qb, 0, none⟩) hql).trans HF0.out.2.2.2.2.1
  have d0 : W5.cell? ⟨w.heap.size, 0, none⟩ = some (.bool true) := by rw [hR5.cell?]; rfl
  have HX := Lib.hid (And.intro hB5 (And.intro hR5 (And.intro hZ5 hs5)))
  clear hB5 hR5 hZ5 hs5
  go_upto_region 3 with (fail)
  obtain ⟨W6, hW6⟩ : ∃ W6, W5.setCell ⟨qb, 0, none⟩ (.bool true) = W6 := ⟨_, rfl⟩
  have hs6 : w.heap.size + 3 ≤ W6.heap.size := by rw [← hW6]; simpa using hs5'
  have HF : Hid (∀ X, Below (w.heap.size + 3) W6 X → w.grownBy X (some qb) ∧ Row Value.bool X w.heap.size 184 pl0 ∧ Row Value.bool X (w.heap.size + 1) 184 zPl ∧ Row oV X (w.heap.size + 2) 125 (stC 13 0 nm (-1) (-1)) ∧
      X.cell? ⟨bb, 0, none⟩ = some (.func (.func 103) #[] #[pbv, stv]) ∧ w.heap.size + 3 ≤ X.heap.size) := Lib.hid fun X hX => by
    obtain ⟨h1, h2, h3, h4⟩ := HX.out
    have hg : w.grownBy W6 (some qb) := by rw [← hW6]; exact grown_set (grown_of_below h1 _) 0 _
    have k2 : Row Value.bool W6 w.heap.size 184 pl0 := by rw [← hW6]; exact h2.set_other (by omega) _ _
    have k3 : Row Value.bool W6 (w.heap.size + 1) 184 zPl := by rw [← hW6]; exact h3.set_other (by omega) _ _
    have k4 : Row oV W6 (w.heap.size + 2) 125 (stC 13 0 nm (-1) (-1)) := by rw [← hW6]; exact h4.set_other (by omega) _ _
    have k5 : W6.cell? ⟨bb, 0, none⟩ = some (.func (.func 103) #[] #[pbv, stv]) := (World.cell?_of_block (a := ⟨bb, 0, none⟩) (hg.block bb hbl (by intro e; cases e; exact hqb rfl))).trans HF0.out.2.2.2.2.2
    exact ⟨⟨hX.os.trans hg.os, hX.tape.trans hg.tape, hX.output.trans hg.output, Nat.le_trans hg.size hX.size, fun k hk hne => (hX.block k (by omega)).trans (hg.block k hk hne)⟩, k2.below hX (by omega), k3.below hX (by omega), k4.below hX (by omega), (hX.cell (p := ⟨bb, 0, none⟩) (by show bb < _; omega)).trans k5, Nat.le_trans hs6 hX.size⟩
  rw [hW6]
  clear hW6 r0 q0 qf d0 hs5' HX
  have hW6 : Below (w.heap.size + 3) W6 W6 := Below.refl _ _
  have e0 : W6.cell? ⟨w.heap.size + 2, 0, none⟩ = some (.int .i64 13) := by rw [(HF.out W6 hW6).2.2.2.1.cell?]; rfl
  go_upto_region 5 with (fail)
  obtain ⟨CV, HCV⟩ : ∃ CV, Hid (CV = (vars0.map Value.bool).toArray) := ⟨_, Lib.hid rfl⟩
  have hD : ∀ X, Below (w.heap.size + 3) W6 X → X.cell? ⟨w.heap.size, 0, none⟩ = some (.bool true) := fun X hX => by rw [(HF.out X hX).2.1.cell?]; rfl
  have hV : ∀ X, Below (w.heap.size + 3) W6 X → At Value.bool X w.heap.size 1 vars0 := fun X hX i hi => by rw [(HF.out X hX).2.1.cell?, Nat.add_comm 1 i]; rfl
  refine wp_region_held_drew (S := fun X => Below (w.heap.size + 3) W6 X) rfl hW6.drew fun hS => ?_
  refine takeD (i := 0) (d := 38) (v := .pointer (some ⟨w.heap.size, 0, none⟩)) rfl rfl (by kernel_rfl) (by kernel_rfl) (by kernel_rfl) (fun c a w h => h) (yieldsIf_op rfl (fun w => by first | rfl | kernel_rfl | (go_simp; done))) hS ?_
  simp only [List.setIfInBounds_toArray, List.set_cons_succ, List.set_cons_zero]
  refine takeD (i := 1) (d := 39) (v := .bool true) rfl rfl (by kernel_rfl) (by kernel_rfl) (by kernel_rfl) (fun c a w h => h) (.inl ⟨by first | rfl | kernel_rfl, fun W' h => by have q0 := hD W' h; go_simp⟩) hS ?_
  simp only [List.setIfInBounds_toArray, List.set_cons_succ, List.set_cons_zero]
  refine takeD (i := 2) (d := 40) (v := .bool true) rfl rfl (by kernel_rfl) (by kernel_rfl) (by kernel_rfl) (fun c a w h => h) (yieldsIf_op rfl (fun w => by first | rfl | kernel_rfl | (go_simp; done))) hS ?_
  simp only [List.setIfInBounds_toArray, List.set_cons_succ, List.set_cons_zero]
  refine takeD (i := 3) (d := 41) (v := .pointer (some ⟨w.heap.size, 1, none⟩)) rfl rfl (by kernel_rfl) (by kernel_rfl) (by kernel_rfl) (fun c a w h => h) (yieldsIf_op rfl (fun w => by first | rfl | kernel_rfl | (go_simp; done))) hS ?_
  simp only [List.setIfInBounds_toArray, List.set_cons_succ, List.set_cons_zero]
  refine takeD (i := 4) (d := 42) (v := .agg CV) rfl rfl (by kernel_rfl) (by kernel_rfl) (by kernel_rfl) (fun c a w h => h) (yieldsIf_load (f := Value.bool) (l := vars0) (aggVarsL _ rfl) (.tmp 41) rfl w.heap.size 1 rfl (fun W' h => hV W' h) HCV.out rfl) hS ?_
  simp only [List.setIfInBounds_toArray, List.set_cons_succ, List.set_cons_zero]
  refine takeD (i := 5) (d := 43) (v := .agg C1) rfl rfl (by kernel_rfl) (by kernel_rfl) (by kernel_rfl) (fun c a w h => h) (yieldsIf_load (f := oV) (l := stC 13 0 nm (-1) (-1)) (aggStmtL _ _ _ _ _) (.tmp 11) rfl (w.heap.size + 2) 0 rfl (fun W' h => (HF.out W' h).2.2.2.1.at) HC1.out rfl) hS ?_
  simp only [List.setIfInBounds_toArray, List.set_cons_succ, List.set_cons_zero]
  refine takeD (i := 8) (d := 46) (v := .pointer (some ⟨w.heap.size, 1, none⟩)) rfl rfl (by kernel_rfl) (by kernel_rfl) (by kernel_rfl) (fun c a w h => h) (yieldsIf_op rfl (fun w => by first | rfl | kernel_rfl | (go_simp; done))) hS ?_
  simp only [List.setIfInBounds_toArray, List.set_cons_succ, List.set_cons_zero]
  refine takeD (i := 9) (d := 47) (v := .agg CV) rfl rfl (by kernel_rfl) (by kernel_rfl) (by kernel_rfl) (fun c a w h => h) (yieldsIf_load (f := Value.bool) (l := vars0) (aggVarsL _ rfl) (.tmp 46) rfl w.heap.size 1 rfl (fun W' h => hV W' h) HCV.out rfl) hS ?_
  simp only [List.setIfInBounds_toArray, List.set_cons_succ, List.set_cons_zero]
  refine wpAnyH_ready (rs := [6]) (by kernel_rfl) (by simp) (AllReadyH.cons rfl (fun K' hK => ?_) AllReadyH.nil)
  refine callD (d := 44) (g := 83) (args := #[.agg C1]) rfl rfl (by first | kernel_rfl | (simp [execOp, resolve, invoke, Act.eval]) | go_simp) ?_
  refine (rReads13 _ nm C1 HC1).mono ?_
  rintro e W7 ⟨C7, rfl, HC7, hB7⟩
  obtain rfl : C7 = CV := HC7.out.trans HCV.out.symm
  replace hS := hS.trans (hB7.mono (HF.out _ hS).2.2.2.2.2)
  refine ⟨_, rfl, hK.out _ _ hS fun _ => ?_⟩
  clear hK hB7 HC7
  simp only [List.setIfInBounds_toArray, List.set_cons_succ, List.set_cons_zero]
  refine wpAnyH_ready (rs := [7]) (by kernel_rfl) (by simp) (AllReadyH.cons rfl (fun K' hK => ?_) AllReadyH.nil)
  refine callD (d := 45) (g := 82) (args := #[.agg C7, .agg C7]) rfl rfl (by first | kernel_rfl | (simp [execOp, resolve, invoke, Act.eval]) | go_simp) ?_
  refine (rOr _ vars0 vars0 rfl rfl C7 C7 HCV HCV).mono ?_
  rintro e W8 ⟨C8, rfl, HC8, hB8⟩
  obtain rfl : C7 = C8 := HCV.out.trans HC8.out.symm
  replace hS := hS.trans (hB8.mono (HF.out _ hS).2.2.2.2.2)
  refine ⟨_, rfl, hK.out _ _ hS fun _ => ?_⟩
  clear hK hB8 HC8
  simp only [List.setIfInBounds_toArray, List.set_cons_succ, List.set_cons_zero]
  refine takeD (i := 10) (d := 48) (v := .bool false) rfl rfl (by kernel_rfl) (by kernel_rfl) (by kernel_rfl) (fun c a w h => h) (yieldsIf_op rfl (fun w => by rw [HCV.out]; kernel_rfl)) hS ?_
  simp only [List.setIfInBounds_toArray, List.set_cons_succ, List.set_cons_zero]
  refine takeD (i := 11) (d := 49) (v := .bool false) rfl rfl (by kernel_rfl) (by kernel_rfl) (by kernel_rfl) (fun c a w h => h) (yieldsIf_op rfl (fun w => by first | rfl | kernel_rfl | (go_simp; done))) hS ?_
  simp only [List.setIfInBounds_toArray, List.set_cons_succ, List.set_cons_zero]
  refine wpAnyH_done (by kernel_rfl) ?_ _
  clear e0
  have e0 : W8.cell? ⟨w.heap.size + 2, 0, none⟩ = some (.int .i64 13) := by rw [(HF.out W8 hS).2.2.2.1.cell?]; rfl
  have hR8 := (HF.out W8 hS).2.2.2.1
  go_wp2_with (first
    | ((with_reducible refine load_agg (f := oV) (l := stC 13 0 nm (-1) (-1)) (aggStmtL _ _ _ _ _) (.tmp 11) ?_ ?_ (w.heap.size + 2) 0 ?_ hR8.at HC1.out ?_); rfl; rfl; rfl))
  refine (rSets13 _ nm C1 HC1).mono ?_
  rintro e W9 ⟨C9, rfl, HC9, hB9⟩
  replace hS := hS.trans (hB9.mono (HF.out _ hS).2.2.2.2.2)
  clear e0 hR8 hB9
  have hs9 := (HF.out _ hS).2.2.2.2.2
  have hZ9 : Row Value.bool (W9.alloc (.cells zVarsC 150)) W9.heap.size 150 zVars := Row.new _ _ rfl
  have hS9 := hS.alloc hs9 (.cells zVarsC 150)
  go_upto_region 23 with (first
    | ((with_reducible refine store_agg (f := Value.bool) (l := zVars) (l' := zVars) (t := 150) (C := C9) (aggVarsL _ rfl) (.tmp 14) (.tmp 100) ?_ ?_ W9.heap.size ?_ ?_ ?_ hZ9 ?_ bV_one ?_); rfl; rfl; rfl; exact HC9.out; rfl; rfl; intro Wa hsa hGa hza))
  have hSa : Below (w.heap.size + 3) W6 Wa := hS9.grown hGa (by simp; omega) (fun k e => by cases e; omega)
  clear hS hZ9 hS9 hGa hza
  generalize W9.heap.size = n9 at hsa hs9 ⊢
  refine region_headsT (S := fun X => Below (w.heap.size + 3) W6 X ∧ Row Value.bool X n9 150 zVars) 8 rfl (by kernel_rfl) ⟨hSa.drew, hsa⟩ fun hS => ?_
  refine headsT_takeD (i := 0) (d := 102) (v := .pointer (some ⟨w.heap.size, 0, none⟩)) (by kernel_rfl) rfl rfl (by omega) (by kernel_rfl) (by kernel_rfl) (fun c a w h => h) (yieldsIf_op rfl (fun w => by first | rfl | kernel_rfl | (go_simp; done))) hS ?_
  simp only [List.setIfInBounds_toArray, List.set_cons_succ, List.set_cons_zero]
  refine headsT_takeD (i := 1) (d := 103) (v := .bool true) (by kernel_rfl) rfl rfl (by omega) (by kernel_rfl) (by kernel_rfl) (fun c a w h => h) (.inl ⟨by first | rfl | kernel_rfl, fun W' h => by have q0 := hD W' h.1; go_simp⟩) hS ?_
  simp only [List.setIfInBounds_toArray, List.set_cons_succ, List.set_cons_zero]
  refine headsT_takeD (i := 2) (d := 104) (v := .pointer (some ⟨w.heap.size, 1, none⟩)) (by kernel_rfl) rfl rfl (by omega) (by kernel_rfl) (by kernel_rfl) (fun c a w h => h) (yieldsIf_op rfl (fun w => by first | rfl | kernel_rfl | (go_simp; done))) hS ?_
  simp only [List.setIfInBounds_toArray, List.set_cons_succ, List.set_cons_zero]
  refine headsT_takeD (i := 3) (d := 105) (v := .agg C7) (by kernel_rfl) rfl rfl (by omega) (by kernel_rfl) (by kernel_rfl) (fun c a w h => h) (yieldsIf_load (f := Value.bool) (l := vars0) (aggVarsL _ rfl) (.tmp 104) rfl w.heap.size 1 rfl (fun W' h => hV W' h.1) HCV.out rfl) hS ?_
  simp only [List.setIfInBounds_toArray, List.set_cons_succ, List.set_cons_zero]
  refine headsT_takeD (i := 4) (d := 106) (v := .agg C9) (by kernel_rfl) rfl rfl (by omega) (by kernel_rfl) (by kernel_rfl) (fun c a w h => h) (yieldsIf_load (f := Value.bool) (l := zVars) (aggVarsL _ rfl) (.tmp 14) rfl n9 0 rfl (fun W' h => h.2.at) HC9.out rfl) hS ?_
  simp only [List.setIfInBounds_toArray, List.set_cons_succ, List.set_cons_zero]
  refine headsT_ready (rs := [5, 7]) (by kernel_rfl) (by simp) (AllReadyT.cons (by omega) rfl (fun K' hK => ?_) (AllReadyT.cons (by omega) rfl (fun K' hK => ?_) AllReadyT.nil))
  · refine callD (d := 107) (g := 82) (args := #[.agg C7, .agg C9]) rfl rfl (by first | kernel_rfl | (simp [execOp, resolve, invoke, Act.eval]) | go_simp) ?_
    refine (rOr _ vars0 zVars rfl rfl C7 C9 HCV HC9).mono ?_
    rintro e Wb ⟨Cb, rfl, HCb, hBb⟩
    obtain rfl : C7 = Cb := HCV.out.trans HCb.out.symm
    have hSb := And.intro (hS.1.trans (hBb.mono (HF.out _ hS.1).2.2.2.2.2)) (hS.2.below hBb hS.2.lt)
    refine ⟨_, rfl, hK.out _ _ hSb fun _ => ?_⟩
    clear hK hBb HCb
    simp only [List.setIfInBounds_toArray, List.set_cons_succ, List.set_cons_zero]
    refine headsT_takeD (i := 6) (d := 108) (v := .agg C) (by kernel_rfl) rfl rfl (by omega) (by kernel_rfl) (by kernel_rfl) (fun c a w h => h) (yieldsIf_op rfl (fun w => by rw [HC.out, HCV.out]; kernel_rfl)) hSb ?_
    simp only [List.setIfInBounds_toArray, List.set_cons_succ, List.set_cons_zero]
    refine headsT_ready (rs := [7]) (by kernel_rfl) (by simp) (AllReadyT.cons (by omega) rfl (fun K' hK => ?_) AllReadyT.nil)
    have hZc : Row Value.bool (Wb.alloc (.cells zPlC 184)) Wb.heap.size 184 zPl := Row.new _ _ rfl
    have hSc := And.intro (hSb.1.alloc (HF.out _ hSb.1).2.2.2.2.2 (.cells zPlC 184)) (hSb.2.alloc (.cells zPlC 184))
    have hsc9 := (HF.out _ hSb.1).2.2.2.2.2
    refine allocD (d := 16) (ob := .cells zPlC 184) rfl rfl (by first | rfl | kernel_rfl) ?_
    refine hK.out _ _ hSc fun _ => ?_
    clear hK
    simp only [List.setIfInBounds_toArray, List.set_cons_succ, List.set_cons_zero]
    generalize Wb.heap.size = nc at hZc hsc9 ⊢
    generalize (Wb.alloc (.cells zPlC 184)) = Wc at hSc hZc ⊢
    refine headsT_tail (by kernel_rfl) ?_
    simp only [List.drop]
    obtain ⟨hSx, _⟩ := hSc
    go_wp2_with (first
      | ((with_reducible refine store_agg (f := Value.bool) (l := zPl) (l' := pl0) (t := 184) (C := C) (aggPl _ rfl) (.tmp 16) (.tmp 108) ?_ ?_ nc ?_ ?_ ?_ hZc ?_ bV_one ?_); rfl; rfl; rfl; exact HC.out; rfl; rfl; (intro We hse hGe hze); refine Pause.back ?_))
    have hSe : Below (w.heap.size + 3) W6 We := hSx.grown hGe (HF.out _ hSx).2.2.2.2.2 (fun k e => by cases e; exact hsc9)
    clear hSx hZc hGe hze
    have he0 : We.cell? ⟨w.heap.size + 2, 32, none⟩ = some (.int .i64 (-1)) := by rw [(HF.out We hSe).2.2.2.1.cell?]; rfl
    have he1 := (HF.out We hSe).2.2.2.2.1
    have he2 := hV We hSe
    obtain ⟨CN, HCN⟩ : ∃ CN, Hid (CN = ((false :: vars0).map Value.bool).toArray) := ⟨_, Lib.hid rfl⟩
    refine Pause.out ?_
    go_wp2_with (first
      | ((with_reducible refine load_agg (f := Value.bool) (l := vars0) (aggVarsL _ rfl) (.tmp 121) ?_ ?_ w.heap.size 1 ?_ he2 HCV.out ?_); rfl; rfl; rfl)
      | ((with_reducible refine closed_w (u := .agg CN) (.build 184 #[(0, .const (.bool false)), (1, .tmp 122)]) ?_ ?_ ?_ ?_); rfl; rfl; (rw [HCN.out, HCV.out]; kernel_rfl)))
    refine (rBlkNeg _ (false :: vars0) rfl CN HCN (.pointer none) pbv stv).mono ?_
    rintro e Wf ⟨Cf, rfl, HCf, hBf⟩
    have hSf := hSe.trans (hBf.mono (HF.out _ hSe).2.2.2.2.2)
    have hsf := hse.below hBf hse.lt
    have hZf := (HF.out _ hSf).2.2.1
    clear hBf hse he0 he1 he2 hSe
    go_wp2_with (first
      | ((with_reducible refine load_agg (f := Value.bool) (l := pl0) (aggPl _ rfl) (.tmp 16) ?_ ?_ nc 0 ?_ hsf.at HC.out ?_); rfl; rfl; rfl)
      | ((with_reducible refine store_agg (f := Value.bool) (l := zPl) (l' := pl0) (t := 184) (C := C) (aggPl _ rfl) (.tmp 10) (.tmp 126) ?_ ?_ (w.heap.size + 1) ?_ ?_ ?_ hZf ?_ bV_one ?_); rfl; rfl; rfl; exact HC.out; rfl; rfl; (intro Wg hsg hGg hzg)))
    refine bodyPost_ret (results_agg (f := Value.bool) (l := pl0) rfl _ (aggPl _ rfl) (w.heap.size + 1) 0 rfl hsg.at) rfl ?_
    exact ⟨_, rfl, Lib.hid rfl, (HF.out _ hSf).1.andThen hGg (fun j e => by cases e; exact .inl (Nat.le_succ _))⟩
  · generalize Wa.drew = Wd at hS ⊢
    have hZc : Row Value.bool (Wd.alloc (.cells zPlC 184)) Wd.heap.size 184 zPl := Row.new _ _ rfl
    have hSc := And.intro (hS.1.alloc (HF.out _ hS.1).2.2.2.2.2 (.cells zPlC 184)) (hS.2.alloc (.cells zPlC 184))
    have hsc9 := (HF.out _ hS.1).2.2.2.2.2
    refine allocD (d := 16) (ob := .cells zPlC 184) rfl rfl (by first | rfl | kernel_rfl) ?_
    refine hK.out _ _ hSc fun _ => ?_
    clear hK
    simp only [List.setIfInBounds_toArray, List.set_cons_succ, List.set_cons_zero]
    refine headsT_ready (rs := [5]) (by kernel_rfl) (by simp) (AllReadyT.cons (by omega) rfl (fun K' hK => ?_) AllReadyT.nil)
    refine callD (d := 107) (g := 82) (args := #[.agg C7, .agg C9]) rfl rfl (by first | kernel_rfl | (simp [execOp, resolve, invoke, Act.eval]) | go_simp) ?_
    refine (rOr _ vars0 zVars rfl rfl C7 C9 HCV HC9).mono ?_
    rintro e Wb ⟨Cb, rfl, HCb, hBb⟩
    obtain rfl : C7 = Cb := HCV.out.trans HCb.out.symm
    have hSb := And.intro (hSc.1.trans (hBb.mono (HF.out _ hSc.1).2.2.2.2.2)) (hSc.2.below hBb hSc.2.lt)
    replace hZc := hZc.below hBb hZc.lt
    refine ⟨_, rfl, hK.out _ _ hSb fun _ => ?_⟩
    clear hK hBb HCb
    simp only [List.setIfInBounds_toArray, List.set_cons_succ, List.set_cons_zero]
    refine headsT_takeD (i := 6) (d := 108) (v := .agg C) (by kernel_rfl) rfl rfl (by omega) (by kernel_rfl) (by kernel_rfl) (fun c a w h => h) (yieldsIf_op rfl (fun w => by rw [HC.out, HCV.out]; kernel_rfl)) hSb ?_
    simp only [List.setIfInBounds_toArray, List.set_cons_succ, List.set_cons_zero]
    generalize Wd.heap.size = nc at hZc hsc9 ⊢
    replace hSc := hSb
    refine headsT_tail (by kernel_rfl) ?_
    simp only [List.drop]
    obtain ⟨hSx, _⟩ := hSc
    go_wp2_with (first
      | ((with_reducible refine store_agg (f := Value.bool) (l := zPl) (l' := pl0) (t := 184) (C := C) (aggPl _ rfl) (.tmp 16) (.tmp 108) ?_ ?_ nc ?_ ?_ ?_ hZc ?_ bV_one ?_); rfl; rfl; rfl; exact HC.out; rfl; rfl; (intro We hse hGe hze); refine Pause.back ?_))
    have hSe : Below (w.heap.size + 3) W6 We := hSx.grown hGe (HF.out _ hSx).2.2.2.2.2 (fun k e => by cases e; exact hsc9)
    clear hSx hZc hGe hze
    have he0 : We.cell? ⟨w.heap.size + 2, 32, none⟩ = some (.int .i64 (-1)) := by rw [(HF.out We hSe).2.2.2.1.cell?]; rfl
    have he1 := (HF.out We hSe).2.2.2.2.1
    have he2 := hV We hSe
    obtain ⟨CN, HCN⟩ : ∃ CN, Hid (CN = ((false :: vars0).map Value.bool).toArray) := ⟨_, Lib.hid rfl⟩
    refine Pause.out ?_
    go_wp2_with (first
      | ((with_reducible refine load_agg (f := Value.bool) (l := vars0) (aggVarsL _ rfl) (.tmp 121) ?_ ?_ w.heap.size 1 ?_ he2 HCV.out ?_); rfl; rfl; rfl)
      | ((with_reducible refine closed_w (u := .agg CN) (.build 184 #[(0, .const (.bool false)), (1, .tmp 122)]) ?_ ?_ ?_ ?_); rfl; rfl; (rw [HCN.out, HCV.out]; kernel_rfl)))
    refine (rBlkNeg _ (false :: vars0) rfl CN HCN (.pointer none) pbv stv).mono ?_
    rintro e Wf ⟨Cf, rfl, HCf, hBf⟩
    have hSf := hSe.trans (hBf.mono (HF.out _ hSe).2.2.2.2.2)
    have hsf := hse.below hBf hse.lt
    have hZf := (HF.out _ hSf).2.2.1
    clear hBf hse he0 he1 he2 hSe
    go_wp2_with (first
      | ((with_reducible refine load_agg (f := Value.bool) (l := pl0) (aggPl _ rfl) (.tmp 16) ?_ ?_ nc 0 ?_ hsf.at HC.out ?_); rfl; rfl; rfl)
      | ((with_reducible refine store_agg (f := Value.bool) (l := zPl) (l' := pl0) (t := 184) (C := C) (aggPl _ rfl) (.tmp 10) (.tmp 126) ?_ ?_ (w.heap.size + 1) ?_ ?_ ?_ hZf ?_ bV_one ?_); rfl; rfl; rfl; exact HC.out; rfl; rfl; (intro Wg hsg hGg hzg)))
    refine bodyPost_ret (results_agg (f := Value.bool) (l := pl0) rfl _ (aggPl _ rfl) (w.heap.size + 1) 0 rfl hsg.at) rfl ?_
    exact ⟨_, rfl, Lib.hid rfl, (HF.out _ hSf).1.andThen hGg (fun j e => by cases e; exact .inl (Nat.le_succ _))⟩
end Go.Proofs.YtgflelodpcgmbaaGreatDoor
/- The walk through a program: its main block of one statement that appends a field. -/
namespace Go.Proofs.YtgflelodpcgmbaaGreatDoor
open Go.RowKit Mem
set_option maxRecDepth 100000

set_option maxHeartbeats 8000000 in
theorem rBlk0 (w : World) (nm : ByteArray) (C : Array Value) (HC : Hid (C = (pl0.map Value.bool).toArray)) (pb rb qb wb bb sb so sc kb ko kc ib io ic tb : Nat)
    (hp0 : w.cell? ⟨pb, 0, none⟩ = some (.slice (some ⟨sb, so, none⟩) 1 sc)) (hpl : pb < w.heap.size) (hA : At oV w sb so (stC 13 0 nm (-1) (-1))) (hsl : sb < w.heap.size)
    (hp1 : w.cell? ⟨pb, 1, none⟩ = some (.slice (some ⟨kb, ko, none⟩) 1 kc)) (hk0 : w.cell? ⟨kb, ko, none⟩ = some (.slice (some ⟨ib, io, none⟩) 1 ic)) (hkl : kb < w.heap.size) (hi0 : w.cell? ⟨ib, io, none⟩ = some (.int .i64 0)) (hil : ib < w.heap.size)
    (hr0 : w.cell? ⟨rb, 0, none⟩ = some (.slice (some ⟨qb, 0, none⟩) 1 1)) (hrl : rb < w.heap.size) (hq0 : w.cell? ⟨qb, 0, none⟩ = some (.bool false)) (hqf : w.frozen? ⟨qb, 0, none⟩ = false) (hql : qb < w.heap.size)
    (hb0 : w.cell? ⟨bb, 0, none⟩ = some (.func (.func 103) #[] #[.pointer (some ⟨pb, 0, none⟩), .pointer (some ⟨tb, 0, none⟩)])) (hbl : bb < w.heap.size) (hqb : qb ≠ bb)
    (ht0 : w.cell? ⟨tb, 0, none⟩ = some (.func (.func 101) #[] #[.pointer (some ⟨pb, 0, none⟩), .pointer (some ⟨rb, 0, none⟩), .pointer (some ⟨wb, 0, none⟩), .pointer (some ⟨bb, 0, none⟩)])) (htl : tb < w.heap.size) :
    Calls Tryz.prog 103 #[.int .i64 0, .agg C, .pointer none, .pointer (some ⟨pb, 0, none⟩), .pointer (some ⟨tb, 0, none⟩)] w fun e w' =>
      ∃ C', e = .returned (.agg C') ∧ Hid (C' = (pl0.map Value.bool).toArray) ∧ w.grownBy w' (some qb) := by
  have HF := Lib.hid (And.intro hp0 (And.intro hA (And.intro hr0 (And.intro hq0 (And.intro hqf (And.intro hb0 ht0))))))
  have HG := Lib.hid (And.intro hp1 (And.intro hk0 hi0))
  clear hp0 hA hr0 hq0 hqf hb0 ht0 hp1 hk0 hi0
  go_enter Tryz.func103, Tryz.ntmps103
  go_upto_region 1 with (fail)
  obtain ⟨W, hW, hR, hZ, hB, hs⟩ : ∃ W, (w.alloc (.cells C 184)).alloc (.cells zPlC 184) = W ∧ Row Value.bool W w.heap.size 184 pl0 ∧ Row Value.bool W (w.heap.size + 1) 184 zPl ∧ Below w.heap.size w W ∧ w.heap.size + 2 ≤ W.heap.size :=
    ⟨_, rfl, Row.alloc (Row.new w _ (by rw [HC.out])) _, heap_new' _ _ _ (by simp), ((Below.refl _ _).alloc (Nat.le_refl _) _).alloc (by simp) _, by simp⟩
  rw [hW]
  clear hW
  have p1 := (hB.cell (p := ⟨pb, 1, none⟩) hpl).trans HG.out.1
  have k0 := (hB.cell (p := ⟨kb, ko, none⟩) hkl).trans HG.out.2.1
  have i0 := (hB.cell (p := ⟨ib, io, none⟩) hil).trans HG.out.2.2
  have t0 := (hB.cell (p := ⟨tb, 0, none⟩) htl).trans HF.out.2.2.2.2.2.2
  go_wp2_with fail
  refine wp_loop_rounds 2 ?_
  refine rounds_step (n := 1) ?_
  go_wp2_with (first
    | ((with_reducible refine load_agg (f := Value.bool) (l := pl0) (aggPl _ rfl) (.tmp 6) ?_ ?_ w.heap.size 0 ?_ hR.at HC.out ?_); rfl; rfl; rfl))
  have hm : ∀ b, b < w.heap.size → b < W.heap.size := fun b hb => Nat.lt_of_lt_of_le hb hB.size
  refine (rStmt13 W nm C HC pb rb qb wb bb sb so sc (.pointer none) (.pointer (some ⟨tb, 0, none⟩)) (.pointer (some ⟨pb, 0, none⟩)) rfl ((hB.cell (p := ⟨pb, 0, none⟩) hpl).trans HF.out.1) (hm _ hpl) (HF.out.2.1.below hB hsl) (hm _ hsl) ((hB.cell (p := ⟨rb, 0, none⟩) hrl).trans HF.out.2.2.1) (hm _ hrl)
    ((hB.cell (p := ⟨qb, 0, none⟩) hql).trans HF.out.2.2.2.1) ((hB.frozen (p := ⟨qb, 0, none⟩) hql).trans HF.out.2.2.2.2.1) (hm _ hql) ((hB.cell (p := ⟨bb, 0, none⟩) hbl).trans HF.out.2.2.2.2.2.1) (hm _ hbl) hqb).mono ?_
  rintro e W2 ⟨C2, rfl, HC2, hG2⟩
  obtain rfl : C = C2 := HC.out.trans HC2.out.symm
  have hR2 := hR.grown hG2 (by intro e; cases e; omega)
  have hZ2 := hZ.grown hG2 (by intro e; cases e; omega)
  have hG0 : w.grownBy W2 (some qb) := (grown_of_below hB (some qb)).andThen hG2 (fun j e => .inr e)
  have hs2 : w.heap.size + 2 ≤ W2.heap.size := Nat.le_trans hs hG2.size
  clear HC2 hR hZ hB hG2 p1 k0 i0 t0 hm hs
  go_wp2_with (first
    | ((with_reducible refine store_agg (f := Value.bool) (l := pl0) (l' := pl0) (t := 184) (C := C) (aggPl _ rfl) (.tmp 6) (.tmp 28) ?_ ?_ w.heap.size ?_ ?_ ?_ hR2 ?_ bV_one ?_); rfl; rfl; rfl; exact HC.out; rfl; rfl; (intro W3 hs3 hG3 hz3); refine Pause.back ?_))
  have hZ3 := hZ2.grown hG3 (by intro e; injection e with e; omega)
  have hG03 := hG0.andThen hG3 (fun j e => by cases e; exact .inl (Nat.le_refl _))
  clear hR2 hZ2 hG0 hG3 hz3 hs2
  refine Pause.out ?_
  go_wp2_with fail
  refine rounds_step (n := 0) ?_
  go_wp2_with (first
    | ((with_reducible refine load_agg (f := Value.bool) (l := pl0) (aggPl _ rfl) (.tmp 6) ?_ ?_ w.heap.size 0 ?_ hs3.at HC.out ?_); rfl; rfl; rfl)
    | ((with_reducible refine store_agg (f := Value.bool) (l := zPl) (l' := pl0) (t := 184) (C := C) (aggPl _ rfl) (.tmp 8) (.tmp 30) ?_ ?_ (w.heap.size + 1) ?_ ?_ ?_ hZ3 ?_ bV_one ?_); rfl; rfl; rfl; exact HC.out; rfl; rfl; (intro W4 hs4 hG4 hz4)))
  refine bodyPost_ret (results_agg (f := Value.bool) (l := pl0) rfl _ (aggPl _ rfl) (w.heap.size + 1) 0 rfl hs4.at) rfl ?_
  exact ⟨_, rfl, Lib.hid rfl, hG03.andThen hG4 (fun j e => by cases e; exact .inl (Nat.le_succ _))⟩
end Go.Proofs.YtgflelodpcgmbaaGreatDoor
