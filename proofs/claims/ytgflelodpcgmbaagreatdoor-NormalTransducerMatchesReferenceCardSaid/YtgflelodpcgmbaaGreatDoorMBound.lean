/- The bound of a program of one statement that appends a field. -/
import Derived.Test.YtgflelodpcgmbaaGreatDoorMCells
import Derived.Test.YtgflelodpcgmbaaGreatDoorMTree
namespace Go.Proofs.YtgflelodpcgmbaaGreatDoor
open Go.RowKit Mem
set_option maxRecDepth 100000

theorem rBoundNeg (w : World) (a b : Value) : Calls Tryz.prog 78 #[.agg #[a, b], .int .i64 (-1)] w fun e w' => e = .returned (.int .i64 0) ∧ Below w.heap.size w w' := by
  have hB0 : Below w.heap.size w (w.alloc (.cells #[a, b] 63)) := (Below.refl _ _).alloc (Nat.le_refl _) _
  go_enter Tryz.func78, Tryz.ntmps78
  go_wp2
  go_ret
  exact ⟨rfl, hB0⟩

set_option maxHeartbeats 8000000 in
theorem rBound1 (w : World) (v : Value) (nm : ByteArray) (hp : FP w v nm) :
    Calls Tryz.prog 78 #[v, .int .i64 0] w fun e w' => e = .returned (.int .i64 1) ∧ Below w.heap.size w w' := by
  obtain ⟨sb, so, sc, bb, bo, bc, ib, io, ic, rfl, ⟨k1, k2, k3⟩, ⟨h1, l1⟩, ⟨h2, l2⟩, h3, l3⟩ := hp
  have H1 := Lib.hid h1
  have H2 := Lib.hid h2
  have H3 := Lib.hid h3
  clear h1 h2 h3
  go_enter Tryz.func78, Tryz.ntmps78
  have hR0 : (w.alloc (.cells #[.slice (some ⟨sb, so, none⟩) 1 sc, .slice (some ⟨bb, bo, none⟩) 1 bc] 63)).heap[w.heap.size]? = some (.cells #[.slice (some ⟨sb, so, none⟩) 1 sc, .slice (some ⟨bb, bo, none⟩) 1 bc] 63 (0, 0)) := World.alloc_heap_new _ _
  have hB0 : Below w.heap.size w (w.alloc (.cells #[.slice (some ⟨sb, so, none⟩) 1 sc, .slice (some ⟨bb, bo, none⟩) 1 bc] 63)) := (Below.refl _ _).alloc (Nat.le_refl _) _
  have hs0 : w.heap.size < (w.alloc (.cells #[.slice (some ⟨sb, so, none⟩) 1 sc, .slice (some ⟨bb, bo, none⟩) 1 bc] 63)).heap.size := by simp
  go_upto_region 3 with (fail)
  generalize (w.alloc (.cells #[.slice (some ⟨sb, so, none⟩) 1 sc, .slice (some ⟨bb, bo, none⟩) 1 bc] 63)) = W at *
  have HF : Hid (∀ X, Below (w.heap.size + 1) W X → X.cell? ⟨w.heap.size, 0, none⟩ = some (.slice (some ⟨sb, so, none⟩) 1 sc) ∧ X.cell? ⟨w.heap.size, 1, none⟩ = some (.slice (some ⟨bb, bo, none⟩) 1 bc) ∧ At oV X sb so (stC 13 0 nm (-1) (-1)) ∧
      X.cell? ⟨bb, bo, none⟩ = some (.slice (some ⟨ib, io, none⟩) 1 ic) ∧ X.cell? ⟨ib, io, none⟩ = some (.int .i64 0) ∧ Below w.heap.size w X) := Lib.hid fun X hX => by
    have p0 : W.cell? ⟨w.heap.size, 0, none⟩ = some (.slice (some ⟨sb, so, none⟩) 1 sc) := by unfold World.cell?; rw [hR0]; rfl
    have p1 : W.cell? ⟨w.heap.size, 1, none⟩ = some (.slice (some ⟨bb, bo, none⟩) 1 bc) := by unfold World.cell?; rw [hR0]; rfl
    have hX0 : Below w.heap.size w X := hB0.trans (hX.mono (Nat.le_succ _))
    exact ⟨(hX.cell (p := ⟨w.heap.size, 0, none⟩) (Nat.lt_succ_self _)).trans p0, (hX.cell (p := ⟨w.heap.size, 1, none⟩) (Nat.lt_succ_self _)).trans p1, H1.out.below hX0 l1, (hX0.cell (p := ⟨bb, bo, none⟩) l2).trans H2.out, (hX0.cell (p := ⟨ib, io, none⟩) l3).trans H3.out, hX0⟩
  clear hR0 hB0
  have hW : Below (w.heap.size + 1) W W := Below.refl _ _
  obtain ⟨p0, p1, hA, q0, i0, _⟩ := HF.out W hW
  obtain ⟨C, HC⟩ : ∃ C, Hid (C = ((stC 13 0 nm (-1) (-1)).map oV).toArray) := ⟨_, Lib.hid rfl⟩
  go_wp2_with fail
  have hZ : Row oV (W.alloc (.cells zStmtC 125)) W.heap.size 125 (stC 0 0 ⟨#[]⟩ 0 0) := Row.new _ _ rfl
  have hW1 : Below (w.heap.size + 1) W (W.alloc (.cells zStmtC 125)) := hW.alloc (by omega) _
  refine wp_loop_rounds 2 ?_
  refine rounds_step (n := 1) ?_
  go_wp2_with (first
    | ((with_reducible refine load_agg (f := oV) (l := stC 13 0 nm (-1) (-1)) (aggStmtL _ _ _ _ _) (.tmp 26) ?_ ?_ sb so ?_ hA HC.out ?_); rfl; rfl; rfl)
    | ((with_reducible refine store_agg (f := oV) (l := stC 0 0 ⟨#[]⟩ 0 0) (l' := stC 13 0 nm (-1) (-1)) (t := 125) (C := C) (aggStmtL _ _ _ _ _) (.tmp 8) (.tmp 27) ?_ ?_ W.heap.size ?_ ?_ ?_ hZ ?_ oV_one ?_); rfl; rfl; rfl; exact HC.out; rfl; rfl; (intro W5 hs5 hG5 hz5); (refine Pause.back ?_)))
  have hW5 : Below (w.heap.size + 1) W W5 := hW1.grown hG5 (by simp; omega) (fun k e => by cases e; omega)
  have hWs : w.heap.size < W.heap.size := hs0
  have hs8 : w.heap.size + 1 ≤ W.heap.size := hs0
  clear hZ hW1 hG5 hz5 p0 p1 hA q0 i0 hs0
  generalize hb8 : W.heap.size = b8 at hs5 hWs ⊢
  obtain ⟨p0, p1, hA, q0, i0, _⟩ := HF.out W5 hW5
  have e0 : W5.cell? ⟨b8, 0, none⟩ = some (.int .i64 13) := by rw [hs5.cell?]; rfl
  have e31 : W5.cell? ⟨b8, 31, none⟩ = some (.int .i64 (-1)) := by rw [hs5.cell?]; rfl
  have e32 : W5.cell? ⟨b8, 32, none⟩ = some (.int .i64 (-1)) := by rw [hs5.cell?]; rfl
  refine Pause.out ?_
  go_upto_region 8 with (fail)
  refine wp_region_held_drew (S := fun W' => W'.cell? ⟨w.heap.size, 0, none⟩ = some (.slice (some ⟨sb, so, none⟩) 1 sc) ∧ W'.cell? ⟨w.heap.size, 1, none⟩ = some (.slice (some ⟨bb, bo, none⟩) 1 bc) ∧ W'.cell? ⟨b8, 31, none⟩ = some (.int .i64 (-1)) ∧ W'.cell? ⟨b8, 32, none⟩ = some (.int .i64 (-1)) ∧ Below (w.heap.size + 1) W W' ∧ Row oV W' b8 125 (stC 13 0 nm (-1) (-1))) rfl ⟨p0, p1, e31, e32, hW5.drew, hs5⟩ fun hS => ?_
  refine takeD (i := 0) (d := 28) (v := .agg #[.slice (some ⟨sb, so, none⟩) 1 sc, .slice (some ⟨bb, bo, none⟩) 1 bc]) rfl rfl (by kernel_rfl) (by kernel_rfl) (by kernel_rfl) (fun c a w h => h) (.inl ⟨by first | rfl | kernel_rfl, fun W' h => by obtain ⟨q0, q1, q31, q32, _⟩ := h; go_simp⟩) hS ?_
  simp only [List.setIfInBounds_toArray, List.set_cons_succ, List.set_cons_zero]
  refine takeD (i := 1) (d := 29) (v := .pointer (some ⟨b8, 31, none⟩)) rfl rfl (by kernel_rfl) (by kernel_rfl) (by kernel_rfl) (fun c a w h => h) (yieldsIf_op rfl (fun w => by first | rfl | kernel_rfl | (go_simp; done))) hS ?_
  simp only [List.setIfInBounds_toArray, List.set_cons_succ, List.set_cons_zero]
  refine takeD (i := 2) (d := 30) (v := .int .i64 (-1)) rfl rfl (by kernel_rfl) (by kernel_rfl) (by kernel_rfl) (fun c a w h => h) (.inl ⟨by first | rfl | kernel_rfl, fun W' h => by obtain ⟨q0, q1, q31, q32, _⟩ := h; go_simp⟩) hS ?_
  simp only [List.setIfInBounds_toArray, List.set_cons_succ, List.set_cons_zero]
  refine takeD (i := 4) (d := 32) (v := .agg #[.slice (some ⟨sb, so, none⟩) 1 sc, .slice (some ⟨bb, bo, none⟩) 1 bc]) rfl rfl (by kernel_rfl) (by kernel_rfl) (by kernel_rfl) (fun c a w h => h) (.inl ⟨by first | rfl | kernel_rfl, fun W' h => by obtain ⟨q0, q1, q31, q32, _⟩ := h; go_simp⟩) hS ?_
  simp only [List.setIfInBounds_toArray, List.set_cons_succ, List.set_cons_zero]
  refine takeD (i := 5) (d := 33) (v := .pointer (some ⟨b8, 32, none⟩)) rfl rfl (by kernel_rfl) (by kernel_rfl) (by kernel_rfl) (fun c a w h => h) (yieldsIf_op rfl (fun w => by first | rfl | kernel_rfl | (go_simp; done))) hS ?_
  simp only [List.setIfInBounds_toArray, List.set_cons_succ, List.set_cons_zero]
  refine takeD (i := 6) (d := 34) (v := .int .i64 (-1)) rfl rfl (by kernel_rfl) (by kernel_rfl) (by kernel_rfl) (fun c a w h => h) (.inl ⟨by first | rfl | kernel_rfl, fun W' h => by obtain ⟨q0, q1, q31, q32, _⟩ := h; go_simp⟩) hS ?_
  simp only [List.setIfInBounds_toArray, List.set_cons_succ, List.set_cons_zero]
  refine wpAnyH_ready (rs := [3]) (by kernel_rfl) (by simp) (AllReadyH.cons rfl (fun K' hK => ?_) AllReadyH.nil)
  refine callD (d := 31) (g := 78) (args := #[.agg #[.slice (some ⟨sb, so, none⟩) 1 sc, .slice (some ⟨bb, bo, none⟩) 1 bc], .int .i64 (-1)]) rfl rfl (by first | kernel_rfl | (simp [execOp, resolve, invoke, Act.eval]) | go_simp) ?_
  refine (rBoundNeg W5.drew _ _).mono ?_
  rintro e W6 ⟨rfl, hBn⟩
  have hl : w.heap.size + 1 ≤ (W5.drew).heap.size := Nat.le_trans hs8 hS.2.2.2.2.1.size
  have hl8 : b8 < (W5.drew).heap.size := hS.2.2.2.2.2.lt
  replace hS := And.intro ((hBn.cell (p := ⟨w.heap.size, 0, none⟩) hl).trans hS.1) (And.intro ((hBn.cell (p := ⟨w.heap.size, 1, none⟩) hl).trans hS.2.1) (And.intro ((hBn.cell (p := ⟨b8, 31, none⟩) hl8).trans hS.2.2.1) (And.intro ((hBn.cell (p := ⟨b8, 32, none⟩) hl8).trans hS.2.2.2.1) (And.intro (hS.2.2.2.2.1.trans (hBn.mono hl)) (hS.2.2.2.2.2.below hBn hl8)))))
  refine ⟨_, rfl, hK.out _ _ hS fun _ => ?_⟩
  clear hK hBn hl hl8
  simp only [List.setIfInBounds_toArray, List.set_cons_succ, List.set_cons_zero]
  refine wpAnyH_ready (rs := [7]) (by kernel_rfl) (by simp) (AllReadyH.cons rfl (fun K' hK => ?_) AllReadyH.nil)
  refine callD (d := 35) (g := 78) (args := #[.agg #[.slice (some ⟨sb, so, none⟩) 1 sc, .slice (some ⟨bb, bo, none⟩) 1 bc], .int .i64 (-1)]) rfl rfl (by first | kernel_rfl | (simp [execOp, resolve, invoke, Act.eval]) | go_simp) ?_
  refine (rBoundNeg W6 _ _).mono ?_
  rintro e W7 ⟨rfl, hBn⟩
  have hl : w.heap.size + 1 ≤ (W6).heap.size := Nat.le_trans hs8 hS.2.2.2.2.1.size
  have hl8 : b8 < (W6).heap.size := hS.2.2.2.2.2.lt
  replace hS := And.intro ((hBn.cell (p := ⟨w.heap.size, 0, none⟩) hl).trans hS.1) (And.intro ((hBn.cell (p := ⟨w.heap.size, 1, none⟩) hl).trans hS.2.1) (And.intro ((hBn.cell (p := ⟨b8, 31, none⟩) hl8).trans hS.2.2.1) (And.intro ((hBn.cell (p := ⟨b8, 32, none⟩) hl8).trans hS.2.2.2.1) (And.intro (hS.2.2.2.2.1.trans (hBn.mono hl)) (hS.2.2.2.2.2.below hBn hl8)))))
  refine ⟨_, rfl, hK.out _ _ hS fun _ => ?_⟩
  clear hK hBn hl hl8
  simp only [List.setIfInBounds_toArray, List.set_cons_succ, List.set_cons_zero]
  refine takeD (i := 8) (d := 9) (v := .int .i64 0) rfl rfl (by kernel_rfl) (by kernel_rfl) (by kernel_rfl) (fun c a w h => h) (yieldsIf_op rfl (fun w => by first | rfl | kernel_rfl | (go_simp; done))) hS ?_
  simp only [List.setIfInBounds_toArray, List.set_cons_succ, List.set_cons_zero]
  refine takeD (i := 9) (d := 10) (v := .int .i64 0) rfl rfl (by kernel_rfl) (by kernel_rfl) (by kernel_rfl) (fun c a w h => h) (yieldsIf_op rfl (fun w => by first | rfl | kernel_rfl | (go_simp; done))) hS ?_
  simp only [List.setIfInBounds_toArray, List.set_cons_succ, List.set_cons_zero]
  refine wpAnyH_done (by kernel_rfl) ?_ _
  have hW7 := hS.2.2.2.2.1
  have hs7 := hS.2.2.2.2.2
  clear hS p0 p1 hA q0 i0 e0 e31 e32 hs5
  have e0 : W7.cell? ⟨b8, 0, none⟩ = some (.int .i64 13) := by rw [hs7.cell?]; rfl
  go_wp2_with fail
  refine rounds_step (n := 0) ?_
  go_wp2
  go_ret
  exact ⟨rfl, (HF.out W7 hW7).2.2.2.2.2⟩
end Go.Proofs.YtgflelodpcgmbaaGreatDoor
/- Sets of variables of a program. -/
namespace Go.Proofs.YtgflelodpcgmbaaGreatDoor
open Go.RowKit Mem
set_option maxRecDepth 100000

theorem bV_one (x : Bool) : (Value.bool x).oneCell' = true := rfl
theorem aggVars : AggT Tryz.prog 150 16 := ⟨fun _ => by kernel_rfl, fun _ => by kernel_rfl⟩
abbrev zVars : List Bool := [false, false, false, false, false, false, false, false, false, false, false, false, false, false, false, false]
abbrev vars0 : List Bool := [true, false, false, false, false, false, false, false, false, false, false, false, false, false, false, false]
abbrev zVarsC : Array Value := #[.bool false, .bool false, .bool false, .bool false, .bool false, .bool false, .bool false, .bool false, .bool false, .bool false, .bool false, .bool false, .bool false, .bool false, .bool false, .bool false]
theorem aggVarsL (l : List Bool) (h : l.length = 16) : AggT Tryz.prog 150 l.length := by rw [h]; exact aggVars

/-- the set of string 0 alone -/
theorem rOf0 (w : World) (b o c : Nat) (hc : w.cell? ⟨b, o, none⟩ = some (.int .i64 0)) (hb : b < w.heap.size) :
    Calls Tryz.prog 80 #[.slice (some ⟨b, o, none⟩) 1 c, .slice none 0 0] w fun e w' => ∃ C, e = .returned (.agg C) ∧ Hid (C = (vars0.map Value.bool).toArray) ∧ Below w.heap.size w w' := by
  have HC := Lib.hid hc
  clear hc
  go_enter Tryz.func80, Tryz.ntmps80
  go_wp2_with fail
  obtain ⟨W, hW, hR, hZ, hB, hs⟩ : ∃ W, (w.alloc (.cells zVarsC 150)).alloc (.cells zVarsC 150) = W ∧ Row Value.bool W w.heap.size 150 zVars ∧ Row Value.bool W (w.heap.size + 1) 150 zVars ∧ Below w.heap.size w W ∧ w.heap.size + 2 ≤ W.heap.size := by
    refine ⟨_, rfl, Row.alloc (Row.new (f := Value.bool) (l := zVars) w (.cells zVarsC 150) rfl) _, heap_new' _ _ _ (by simp), ((Below.refl _ _).alloc (Nat.le_refl _) _).alloc (by simp) _, by simp⟩
  rw [hW]
  clear hW
  have hc : W.cell? ⟨b, o, none⟩ = some (.int .i64 0) := (hB.cell (p := ⟨b, o, none⟩) hb).trans HC.out
  have f0 := hZ.frozen 0
  have c0 : W.cell? ⟨w.heap.size + 1, 0, none⟩ = some (.bool false) := by rw [hZ.cell?]; rfl
  have HR := Lib.hid hR
  have HZ := Lib.hid hZ
  clear hR hZ
  refine wp_loop_rounds 2 ?_
  refine rounds_step (n := 1) ?_
  go_wp2_with fail
  obtain ⟨W4, hW4⟩ : ∃ W4, W.setCell ⟨w.heap.size + 1, 0, none⟩ (.bool true) = W4 := ⟨_, rfl⟩
  have hR4 : Row Value.bool W4 w.heap.size 150 zVars := by rw [← hW4]; exact HR.out.set_other (by omega) 0 _
  have hZ4 : Row Value.bool W4 (w.heap.size + 1) 150 vars0 := by rw [← hW4]; exact HZ.out.set 0 true
  have hB4 : Below w.heap.size w W4 := by rw [← hW4]; exact below_set hB 0 (by omega) _
  rw [hW4]
  clear hW4 c0 f0 hc HR HZ hB hs
  refine rounds_step (n := 0) ?_
  go_wp2_with fail
  refine wp_loop_rounds 1 ?_
  refine rounds_step (n := 0) ?_
  obtain ⟨C2, HC2⟩ : ∃ C2, Hid (C2 = (vars0.map Value.bool).toArray) := ⟨_, Lib.hid rfl⟩
  go_wp2_with (first
    | ((with_reducible refine load_agg (f := Value.bool) (l := vars0) (aggVarsL _ rfl) (.tmp 5) ?_ ?_ (w.heap.size + 1) 0 ?_ hZ4.at HC2.out ?_); rfl; rfl; rfl)
    | ((with_reducible refine store_agg (f := Value.bool) (l := zVars) (l' := vars0) (t := 150) (C := C2) (aggVarsL _ rfl) (.tmp 4) (.tmp 29) ?_ ?_ w.heap.size ?_ ?_ ?_ hR4 ?_ bV_one ?_); rfl; rfl; rfl; exact HC2.out; rfl; rfl; intro W5 hs5 hG5 hz5))
  refine bodyPost_ret (results_agg (f := Value.bool) (l := vars0) rfl _ (aggVarsL _ rfl) w.heap.size 0 rfl hs5.at) rfl ?_
  exact ⟨_, rfl, Lib.hid rfl, hB4.grown hG5 (Nat.le_of_lt hR4.lt) (fun k e => by cases e; omega)⟩

def orStep (l1 l2 : List Bool) (k : Nat) : List Bool := (List.zipWith (· || ·) l1 l2).take k ++ l1.drop k
theorem orStep_len (l1 l2 : List Bool) (h : l1.length = l2.length) (k : Nat) (hk : k ≤ l1.length) : (orStep l1 l2 k).length = l1.length := by simp [orStep]; omega
theorem orStep_at (l1 l2 : List Bool) (h : l1.length = l2.length) (k : Nat) (hk : k < l1.length) : (orStep l1 l2 k)[k]? = some l1[k] := by
  unfold orStep
  rw [List.getElem?_append_right (by simp; omega)]
  simp [List.getElem?_drop, hk, ← h, Nat.min_eq_left (Nat.le_of_lt hk)]
theorem orStep_succ (l1 l2 : List Bool) (h : l1.length = l2.length) (k : Nat) (hk : k < l1.length) : (orStep l1 l2 k).set k (l1[k] || l2[k]'(by omega)) = orStep l1 l2 (k + 1) := by
  apply List.ext_getElem?
  intro i
  rw [List.getElem?_set]
  by_cases hi : k = i
  · subst hi
    rw [if_pos rfl, if_pos (by rw [orStep_len _ _ h _ (by omega)]; exact hk)]
    unfold orStep
    rw [List.getElem?_append_left (by simp; omega), List.getElem?_take_of_lt (by omega), List.getElem?_zipWith, List.getElem?_eq_getElem hk, List.getElem?_eq_getElem (by omega)]
  · rw [if_neg hi]
    unfold orStep
    by_cases hlt : i < k
    · rw [List.getElem?_append_left (by simp; omega), List.getElem?_append_left (by simp; omega), List.getElem?_take_of_lt hlt, List.getElem?_take_of_lt (by omega)]
    · rw [List.getElem?_append_right (by simp; omega), List.getElem?_append_right (by simp; omega)]
      simp [List.getElem?_drop, ← h]
      congr 1
      omega

set_option maxHeartbeats 4000000 in
theorem rOr (w : World) (l1 l2 : List Bool) (h1 : l1.length = 16) (h2 : l2.length = 16) (C1 C2 : Array Value) (HC1 : Hid (C1 = (l1.map Value.bool).toArray)) (HC2 : Hid (C2 = (l2.map Value.bool).toArray)) :
    Calls Tryz.prog 82 #[.agg C1, .agg C2] w fun e w' => ∃ C, e = .returned (.agg C) ∧ Hid (C = ((List.zipWith (· || ·) l1 l2).map Value.bool).toArray) ∧ Below w.heap.size w w' := by
  have HL := Lib.hid (And.intro h1 h2)
  have hlz : (List.zipWith (· || ·) l1 l2).length = 16 := by simp [h1, h2]
  have HLZ := Lib.hid hlz
  clear hlz
  go_enter Tryz.func82, Tryz.ntmps82
  go_wp2_with fail
  obtain ⟨W, hW, hR, hQ, hZ, hB⟩ : ∃ W, ((w.alloc (.cells C1 150)).alloc (.cells C2 150)).alloc (.cells zVarsC 150) = W ∧ Row Value.bool W w.heap.size 150 l1 ∧ Row Value.bool W (w.heap.size + 1) 150 l2 ∧ Row Value.bool W (w.heap.size + 1 + 1) 150 zVars ∧ Below w.heap.size w W := by
    refine ⟨_, rfl, Row.alloc (Row.alloc (Row.new (f := Value.bool) (l := l1) w _ (by rw [HC1.out])) _) _, Row.alloc (heap_new' _ _ _ (by simp) |>.trans (by rw [HC2.out])) _, heap_new' _ _ _ (by simp), (((Below.refl _ _).alloc (Nat.le_refl _) _).alloc (by simp) _).alloc (by simp; omega) _⟩
  rw [hW]
  clear hW h1 h2
  go_loopw [6] (fun i wr => ∃ (k : Nat), k ≤ 16 ∧ i = .int .i64 k ∧ Row Value.bool wr w.heap.size 150 (orStep l1 l2 k) ∧ Row Value.bool wr (w.heap.size + 1) 150 l2 ∧ Row Value.bool wr (w.heap.size + 1 + 1) 150 zVars ∧ Below w.heap.size w wr) (fun i _ => 16 - (intOf i).toNat)
  case atStart => exact ⟨0, by omega, rfl, by simpa [orStep] using hR, hQ, hZ, hB⟩
  case round =>
    clear hR hQ hZ hB
    obtain ⟨k, hk, rfl, hR, hQ, hZ, hB⟩ := hrel
    by_cases hlt : k < 16
    · have hq : (k : Int) < 16 := by omega
      have c1 : wr.cell? ⟨w.heap.size, k, none⟩ = some (.bool (l1[k]'(by rw [HL.out.1]; exact hlt))) := by rw [hR.cell?, orStep_at _ _ (HL.out.1.trans HL.out.2.symm) k (by rw [HL.out.1]; exact hlt)]; rfl
      have c2 : wr.cell? ⟨w.heap.size + 1, k, none⟩ = some (.bool (l2[k]'(by rw [HL.out.2]; exact hlt))) := by rw [hQ.cell?, List.getElem?_eq_getElem (by rw [HL.out.2]; exact hlt)]; rfl
      have HS := Lib.hid (orStep_succ l1 l2 (HL.out.1.trans HL.out.2.symm) k (by rw [HL.out.1]; exact hlt))
      have fk := hR.frozen k
      have HX := Lib.hid (And.intro hR (And.intro hQ (And.intro hZ hB)))
      clear hR hQ hZ hB
      generalize l1[k]'_ = x at c1 HS
      generalize l2[k]'_ = y at c2 HS
      have step : ∀ z, z = (x || y) → Row Value.bool (wr.setCell ⟨w.heap.size, k, none⟩ (.bool z)) w.heap.size 150 (orStep l1 l2 (k + 1)) ∧ Row Value.bool (wr.setCell ⟨w.heap.size, k, none⟩ (.bool z)) (w.heap.size + 1) 150 l2 ∧ Row Value.bool (wr.setCell ⟨w.heap.size, k, none⟩ (.bool z)) (w.heap.size + 1 + 1) 150 zVars ∧ Below w.heap.size w (wr.setCell ⟨w.heap.size, k, none⟩ (.bool z)) := by
        rintro z rfl
        obtain ⟨hR, hQ, hZ, hB⟩ := HX.out
        exact ⟨by have := hR.set k (x || y); rwa [HS.out] at this, hQ.set_other (by omega) k _, hZ.set_other (by omega) k _, below_set hB k (Nat.le_refl _) _⟩
      have HST := Lib.hid step
      clear step
      cases x with
      | true =>
        go_wp2_with fail
        go_roundw
        case rel => exact ⟨k + 1, by omega, by go_num, HST.out true rfl⟩
        case measure => simp [intOf]; omega
      | false =>
        go_wp2_with fail
        go_roundw
        case rel => exact ⟨k + 1, by omega, by go_num, HST.out y rfl⟩
        case measure => simp [intOf]; omega
    · obtain rfl : k = 16 := by omega
      have hR' : Row Value.bool wr w.heap.size 150 (List.zipWith (· || ·) l1 l2) := by
        have e : orStep l1 l2 16 = List.zipWith (· || ·) l1 l2 := by
          unfold orStep
          rw [List.take_of_length_le (by rw [HLZ.out]; omega), List.drop_eq_nil_of_le (by rw [HL.out.1]; omega), List.append_nil]
        rwa [e] at hR
      clear hR
      generalize hlz : List.zipWith (· || ·) l1 l2 = lz at hR' HLZ
      have HE := Lib.hid hlz
      clear hlz
      obtain ⟨C2, HC2⟩ : ∃ C2, Hid (C2 = (lz.map Value.bool).toArray) := ⟨_, Lib.hid rfl⟩
      go_wp2_with (first
        | ((with_reducible refine load_agg (f := Value.bool) (l := lz) (aggVarsL _ HLZ.out) (.tmp 2) ?_ ?_ w.heap.size 0 ?_ hR'.at HC2.out ?_); rfl; rfl; rfl)
        | ((with_reducible refine store_agg (f := Value.bool) (l := zVars) (l' := lz) (t := 150) (C := C2) (aggVarsL _ HLZ.out) (.tmp 4) (.tmp 20) ?_ ?_ (w.heap.size + 1 + 1) ?_ ?_ ?_ hZ ?_ bV_one ?_); rfl; rfl; rfl; exact HC2.out; rfl; exact HLZ.out; intro W5 hs5 hG5 hz5))
      refine bodyPost_ret (results_agg (f := Value.bool) (l := lz) rfl _ (aggVarsL _ HLZ.out) (w.heap.size + 1 + 1) 0 rfl hs5.at) rfl ?_
      exact ⟨_, rfl, Lib.hid (by rw [HE.out]), hB.grown hG5 (Nat.le_of_lt hR'.lt) (fun k e => by cases e; omega)⟩
end Go.Proofs.YtgflelodpcgmbaaGreatDoor
/- What a statement that appends a field reads and sets. -/
namespace Go.Proofs.YtgflelodpcgmbaaGreatDoor
open Go.RowKit Mem
set_option maxRecDepth 100000

set_option maxHeartbeats 4000000 in
theorem rReads13 (w : World) (nm : ByteArray) (C : Array Value) (HC : Hid (C = ((stC 13 0 nm (-1) (-1)).map oV).toArray)) :
    Calls Tryz.prog 83 #[.agg C] w fun e w' => ∃ C', e = .returned (.agg C') ∧ Hid (C' = (vars0.map Value.bool).toArray) ∧ Below w.heap.size w w' := by
  go_enter Tryz.func83, Tryz.ntmps83
  go_upto_region 1 with (fail)
  obtain ⟨W, hW, hR, hZ, hB, hs⟩ : ∃ W, (w.alloc (.cells C 125)).alloc (.cells zVarsC 150) = W ∧ Row oV W w.heap.size 125 (stC 13 0 nm (-1) (-1)) ∧ Row Value.bool W (w.heap.size + 1) 150 zVars ∧ Below w.heap.size w W ∧ w.heap.size + 2 ≤ W.heap.size := by
    refine ⟨_, rfl, Row.alloc (Row.new w _ (by rw [HC.out])) _, heap_new' _ _ _ (by simp), ((Below.refl _ _).alloc (Nat.le_refl _) _).alloc (by simp) _, by simp⟩
  rw [hW]
  clear hW
  have c0 : W.cell? ⟨w.heap.size, 0, none⟩ = some (.int .i64 13) := by rw [hR.cell?]; rfl
  have c1 : W.cell? ⟨w.heap.size, 1, none⟩ = some (.int .i64 0) := by rw [hR.cell?]; rfl
  have HZ := Lib.hid hZ
  clear hR hZ
  go_wp2_with fail
  have hZ2 := HZ.out.alloc (.cells #[.int .i64 0] 3)
  have hB2 := hB.alloc hB.size (.cells #[.int .i64 0] 3)
  refine (rOf0 _ W.heap.size 0 1 (by unfold World.cell?; rw [World.alloc_heap_new]; rfl) (by simp)).mono ?_
  rintro e W3 ⟨C3, rfl, HC3, hB3⟩
  replace hZ2 := hZ2.below hB3 hZ2.lt
  replace hB2 := hB2.trans (hB3.mono hB2.size)
  clear hB3 c0 c1
  go_wp2_with (first
    | ((with_reducible refine store_agg (f := Value.bool) (l := zVars) (l' := vars0) (t := 150) (C := C3) (aggVarsL _ rfl) (.tmp 2) (.tmp 49) ?_ ?_ (w.heap.size + 1) ?_ ?_ ?_ hZ2 ?_ bV_one ?_); rfl; rfl; rfl; exact HC3.out; rfl; rfl; intro W5 hs5 hG5 hz5))
  refine bodyPost_ret (results_agg (f := Value.bool) (l := vars0) rfl _ (aggVarsL _ rfl) (w.heap.size + 1) 0 rfl hs5.at) rfl ?_
  exact ⟨_, rfl, Lib.hid rfl, hB2.grown hG5 (Nat.le_of_lt (Nat.lt_of_succ_lt hZ2.lt)) (fun k e => by cases e; omega)⟩

theorem Mem.results_agg2 {α : Type} {f : α → Value} {w : World} {l : List α} {P : Program} {fn : Func} {p t : Tmp} {ty : TypeId} (h : fn.results = #[.cell p ty, .tmp t]) (tmps : Array Value) (T : AggT P ty l.length) (b off : Nat) (hp : tmps.getD p undef = .pointer (some ⟨b, off, none⟩)) (hat : At f w b off l) :
    (results fn tmps).run P w = .ok (.tuple #[.agg (l.map f).toArray, tmps.getD t undef]) w := by
  have hp' : tmps[p]?.getD undef = .pointer (some ⟨b, off, none⟩) := by simpa using hp
  simp [results, h, hp', asAddr, run_load_agg T hat]

set_option maxHeartbeats 8000000 in
theorem rSets13 (w : World) (nm : ByteArray) (C : Array Value) (HC : Hid (C = ((stC 13 0 nm (-1) (-1)).map oV).toArray)) :
    Calls Tryz.prog 81 #[.agg C] w fun e w' => ∃ C', e = .returned (.tuple #[.agg C', .bool false]) ∧ Hid (C' = (zVars.map Value.bool).toArray) ∧ Below w.heap.size w w' := by
  go_enter Tryz.func81, Tryz.ntmps81
  go_upto_region 1 with (fail)
  obtain ⟨W, hW, hR, hZ, hB, hs⟩ : ∃ W, (w.alloc (.cells C 125)).alloc (.cells zVarsC 150) = W ∧ Row oV W w.heap.size 125 (stC 13 0 nm (-1) (-1)) ∧ Row Value.bool W (w.heap.size + 1) 150 zVars ∧ Below w.heap.size w W ∧ w.heap.size + 2 ≤ W.heap.size := by
    refine ⟨_, rfl, Row.alloc (Row.new w _ (by rw [HC.out])) _, heap_new' _ _ _ (by simp), ((Below.refl _ _).alloc (Nat.le_refl _) _).alloc (by simp) _, by simp⟩
  rw [hW]
  clear hW
  have c0 : W.cell? ⟨w.heap.size, 0, none⟩ = some (.int .i64 13) := by rw [hR.cell?]; rfl
  have d0 : W.cell? ⟨w.heap.size + 1, 0, none⟩ = some (.bool false) := by rw [hZ.cell?]; rfl
  have f0 := hZ.frozen 0
  have d1 : W.cell? ⟨w.heap.size + 1, 1, none⟩ = some (.bool false) := by rw [hZ.cell?]; rfl
  have f1 := hZ.frozen 1
  have d2 : W.cell? ⟨w.heap.size + 1, 2, none⟩ = some (.bool false) := by rw [hZ.cell?]; rfl
  have f2 := hZ.frozen 2
  have d3 : W.cell? ⟨w.heap.size + 1, 3, none⟩ = some (.bool false) := by rw [hZ.cell?]; rfl
  have f3 := hZ.frozen 3
  have d4 : W.cell? ⟨w.heap.size + 1, 4, none⟩ = some (.bool false) := by rw [hZ.cell?]; rfl
  have f4 := hZ.frozen 4
  have d5 : W.cell? ⟨w.heap.size + 1, 5, none⟩ = some (.bool false) := by rw [hZ.cell?]; rfl
  have f5 := hZ.frozen 5
  have d6 : W.cell? ⟨w.heap.size + 1, 6, none⟩ = some (.bool false) := by rw [hZ.cell?]; rfl
  have f6 := hZ.frozen 6
  have d7 : W.cell? ⟨w.heap.size + 1, 7, none⟩ = some (.bool false) := by rw [hZ.cell?]; rfl
  have f7 := hZ.frozen 7
  have d8 : W.cell? ⟨w.heap.size + 1, 8, none⟩ = some (.bool false) := by rw [hZ.cell?]; rfl
  have f8 := hZ.frozen 8
  have d9 : W.cell? ⟨w.heap.size + 1, 9, none⟩ = some (.bool false) := by rw [hZ.cell?]; rfl
  have f9 := hZ.frozen 9
  have d10 : W.cell? ⟨w.heap.size + 1, 10, none⟩ = some (.bool false) := by rw [hZ.cell?]; rfl
  have f10 := hZ.frozen 10
  have d11 : W.cell? ⟨w.heap.size + 1, 11, none⟩ = some (.bool false) := by rw [hZ.cell?]; rfl
  have f11 := hZ.frozen 11
  have d12 : W.cell? ⟨w.heap.size + 1, 12, none⟩ = some (.bool false) := by rw [hZ.cell?]; rfl
  have f12 := hZ.frozen 12
  have d13 : W.cell? ⟨w.heap.size + 1, 13, none⟩ = some (.bool false) := by rw [hZ.cell?]; rfl
  have f13 := hZ.frozen 13
  have d14 : W.cell? ⟨w.heap.size + 1, 14, none⟩ = some (.bool false) := by rw [hZ.cell?]; rfl
  have f14 := hZ.frozen 14
  have d15 : W.cell? ⟨w.heap.size + 1, 15, none⟩ = some (.bool false) := by rw [hZ.cell?]; rfl
  have f15 := hZ.frozen 15
  have HR := Lib.hid (And.intro hR hZ)
  clear hR hZ
  go_upto_region 16 with (fail)
  have hZ4 := Row.drew ((((((((((((((((HR.out.2.set 0 false).set 1 false).set 2 false).set 3 false).set 4 false).set 5 false).set 6 false).set 7 false).set 8 false).set 9 false).set 10 false).set 11 false).set 12 false).set 13 false).set 14 false).set 15 false)
  have hB4 := Below.drew (below_set (below_set (below_set (below_set (below_set (below_set (below_set (below_set (below_set (below_set (below_set (below_set (below_set (below_set (below_set (below_set hB (b := w.heap.size + 1) 0 (by omega) (.bool false)) (b := w.heap.size + 1) 1 (by omega) (.bool false)) (b := w.heap.size + 1) 2 (by omega) (.bool false)) (b := w.heap.size + 1) 3 (by omega) (.bool false)) (b := w.heap.size + 1) 4 (by omega) (.bool false)) (b := w.heap.size + 1) 5 (by omega) (.bool false)) (b := w.heap.size + 1) 6 (by omega) (.bool false)) (b := w.heap.size + 1) 7 (by omega) (.bool false)) (b := w.heap.size + 1) 8 (by omega) (.bool false)) (b := w.heap.size + 1) 9 (by omega) (.bool false)) (b := w.heap.size + 1) 10 (by omega) (.bool false)) (b := w.heap.size + 1) 11 (by omega) (.bool false)) (b := w.heap.size + 1) 12 (by omega) (.bool false)) (b := w.heap.size + 1) 13 (by omega) (.bool false)) (b := w.heap.size + 1) 14 (by omega) (.bool false)) (b := w.heap.size + 1) 15 (by omega) (.bool false))
  obtain ⟨W4, hW4⟩ : ∃ W4, ((((((((((((((((W.setCell ⟨w.heap.size + 1, 0, none⟩ (.bool false)).setCell ⟨w.heap.size + 1, 1, none⟩ (.bool false)).setCell ⟨w.heap.size + 1, 2, none⟩ (.bool false)).setCell ⟨w.heap.size + 1, 3, none⟩ (.bool false)).setCell ⟨w.heap.size + 1, 4, none⟩ (.bool false)).setCell ⟨w.heap.size + 1, 5, none⟩ (.bool false)).setCell ⟨w.heap.size + 1, 6, none⟩ (.bool false)).setCell ⟨w.heap.size + 1, 7, none⟩ (.bool false)).setCell ⟨w.heap.size + 1, 8, none⟩ (.bool false)).setCell ⟨w.heap.size + 1, 9, none⟩ (.bool false)).setCell ⟨w.heap.size + 1, 10, none⟩ (.bool false)).setCell ⟨w.heap.size + 1, 11, none⟩ (.bool false)).setCell ⟨w.heap.size + 1, 12, none⟩ (.bool false)).setCell ⟨w.heap.size + 1, 13, none⟩ (.bool false)).setCell ⟨w.heap.size + 1, 14, none⟩ (.bool false)).setCell ⟨w.heap.size + 1, 15, none⟩ (.bool false)).drew = W4 := ⟨_, rfl⟩
  rw [hW4] at hZ4 hB4
  replace hZ4 : Row Value.bool W4 (w.heap.size + 1) 150 zVars := hZ4
  go_region
  clear hW4 d0 f0 d1 f1 d2 f2 d3 f3 d4 f4 d5 f5 d6 f6 d7 f7 d8 f8 d9 f9 d10 f10 d11 f11 d12 f12 d13 f13 d14 f14 d15 f15
  go_wp2_with fail
  refine bodyPost_ret (v := .tuple #[.agg (zVars.map Value.bool).toArray, .bool false]) (results_agg2 (f := Value.bool) (l := zVars) (t := 3) rfl _ (aggVarsL _ rfl) (w.heap.size + 1) 0 rfl hZ4.at) rfl ?_
  exact ⟨_, rfl, Lib.hid rfl, hB4⟩
end Go.Proofs.YtgflelodpcgmbaaGreatDoor
/- The walk through a program: a block without a number. -/
namespace Go.Proofs.YtgflelodpcgmbaaGreatDoor
open Go.RowKit Mem
set_option maxRecDepth 100000

theorem aggPl (l : List Bool) (h : l.length = 17) : AggT Tryz.prog 184 l.length := by
  rw [h]; exact ⟨fun _ => by kernel_rfl, fun _ => by kernel_rfl⟩
abbrev zPl : List Bool := [false, false, false, false, false, false, false, false, false, false, false, false, false, false, false, false, false]
abbrev zPlC : Array Value := #[.bool false, .bool false, .bool false, .bool false, .bool false, .bool false, .bool false, .bool false, .bool false, .bool false, .bool false, .bool false, .bool false, .bool false, .bool false, .bool false, .bool false]

set_option maxHeartbeats 4000000 in
theorem rBlkNeg (w : World) (l : List Bool) (hl : l.length = 17) (C : Array Value) (HC : Hid (C = (l.map Value.bool).toArray)) (lf pv sv : Value) :
    Calls Tryz.prog 103 #[.int .i64 (-1), .agg C, lf, pv, sv] w fun e w' => ∃ C', e = .returned (.agg C') ∧ Hid (C' = (l.map Value.bool).toArray) ∧ Below w.heap.size w w' := by
  have HL := Lib.hid hl
  clear hl
  go_enter Tryz.func103, Tryz.ntmps103
  go_upto_region 1 with (fail)
  obtain ⟨W, hW, hR, hZ, hB⟩ : ∃ W, (w.alloc (.cells C 184)).alloc (.cells zPlC 184) = W ∧ Row Value.bool W w.heap.size 184 l ∧ Row Value.bool W (w.heap.size + 1) 184 zPl ∧ Below w.heap.size w W :=
    ⟨_, rfl, Row.alloc (Row.new w _ (by rw [HC.out])) _, heap_new' _ _ _ (by simp), ((Below.refl _ _).alloc (Nat.le_refl _) _).alloc (by simp) _⟩
  rw [hW]
  clear hW
  go_wp2_with (first
    | ((with_reducible refine load_agg (f := Value.bool) (l := l) (aggPl _ HL.out) (.tmp 6) ?_ ?_ w.heap.size 0 ?_ hR.at HC.out ?_); rfl; rfl; rfl)
    | ((with_reducible refine store_agg (f := Value.bool) (l := zPl) (l' := l) (t := 184) (C := C) (aggPl _ HL.out) (.tmp 8) (.tmp 13) ?_ ?_ (w.heap.size + 1) ?_ ?_ ?_ hZ ?_ bV_one ?_); rfl; rfl; rfl; exact HC.out; rfl; exact HL.out; intro W5 hs5 hG5 hz5))
  refine bodyPost_ret (results_agg (f := Value.bool) (l := l) rfl _ (aggPl _ HL.out) (w.heap.size + 1) 0 rfl hs5.at) rfl ?_
  exact ⟨_, rfl, Lib.hid rfl, hB.grown hG5 (Nat.le_of_lt hR.lt) (fun k e => by cases e; omega)⟩
end Go.Proofs.YtgflelodpcgmbaaGreatDoor
