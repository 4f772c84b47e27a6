/- Classes of bytes: Union. -/
import Derived.Test.YtgflelodpcgmbaaGreatDoorMWord64
import Derived.Test.YtgflelodpcgmbaaGreatDoorMCells
import Derived.LoopTactic
namespace Go.Proofs.YtgflelodpcgmbaaGreatDoor
open Go Go.RowKit Mem
set_option maxRecDepth 100000

theorem below_al {B : Nat} {a w : World} (h : Below B a w) (hB : B ≤ a.heap.size) (o : Obj) : Below B a (w.alloc o) := h.alloc (Nat.le_trans hB h.size) o
theorem or64 (w : World) (x y : UInt64) : Calls Tryz.prog 70 #[.int .u64 (X x), .int .u64 (X y)] w fun e w' => e = .returned (.int .u64 (X (x ||| y))) ∧ w' = w := by
  have h := X_or x y
  go_enter Tryz.func70, Tryz.ntmps70
  go_wp2
  go_ret
  exact ⟨rfl, rfl⟩

def Cl.union (x y : Cl) : Cl := ⟨x.a ||| y.a, x.b ||| y.b, x.c ||| y.c, x.d ||| y.d⟩
abbrev zCl : Array Value := #[.int .u64 0, .int .u64 0, .int .u64 0, .int .u64 0]

set_option maxHeartbeats 8000000 in
theorem clCombine (w : World) (x y : Cl) : Calls Tryz.prog 69 #[.agg (clA x), .agg (clA y), .func (.func 70) #[] #[]] w fun e w' => e = .returned (.agg (clA (x.union y))) ∧ Below w.heap.size w w' := by
  go_enter Tryz.func69, Tryz.ntmps69
  go_upto_region 2 with (fail)
  obtain ⟨W, hW, hB, hs, r0, r1, r2, r3⟩ : ∃ W, ((((w.alloc (.cells (clA x) 80)).alloc (.cells (clA y) 80)).alloc (.cells zCl 80)).alloc (.cells zCl 80)) = W ∧ Below w.heap.size w W ∧ W.heap.size = w.heap.size + 4 ∧ W.heap[w.heap.size]? = some (.cells (clA x) 80 (0, 0)) ∧ W.heap[w.heap.size + 1]? = some (.cells (clA y) 80 (0, 0)) ∧ W.heap[w.heap.size + 1 + 1]? = some (.cells zCl 80 (0, 0)) ∧ W.heap[w.heap.size + 1 + 1 + 1]? = some (.cells zCl 80 (0, 0)) := by
    refine ⟨_, rfl, ?_, by simp, ?_, ?_, ?_, ?_⟩
    · exact below_al (below_al (below_al (below_al (Below.refl _ _) (Nat.le_refl _) _) (Nat.le_refl _) _) (Nat.le_refl _) _) (Nat.le_refl _) _
    all_goals repeat (first | (refine heap_new' _ _ _ ?_; (simp; done)) | (refine (Below.heap_alloc _ _ _ ?_).trans ?_; · (simp <;> omega)))
  rw [hW]
  clear hW
  replace r0 : Row oV W w.heap.size 80 (clL x) := r0
  replace r1 : Row oV W (w.heap.size + 1) 80 (clL y) := r1
  replace r2 : Row oV W (w.heap.size + 1 + 1) 80 [ow 0, ow 0, ow 0, ow 0] := r2
  replace r3 : Row oV W (w.heap.size + 1 + 1 + 1) 80 [ow 0, ow 0, ow 0, ow 0] := r3
  have hs' : w.heap.size + 4 ≤ W.heap.size := Nat.le_of_eq hs.symm
  clear hs
  go_wp2_with fail
  refine wp_loop_rounds 5 ?_
  refine rounds_step (n := 4) ?_
  go_upto_region 5 with (fail)
  have ha : ∀ X, Below W.heap.size W X → X.cell? ⟨w.heap.size, 0, none⟩ = some (.int .u64 (Go.Proofs.YtgflelodpcgmbaaGreatDoor.X x.a)) := fun X h => by rw [(r0.below h r0.lt).cell?]; rfl
  have hb : ∀ X, Below W.heap.size W X → X.cell? ⟨w.heap.size + 1, 0, none⟩ = some (.int .u64 (Go.Proofs.YtgflelodpcgmbaaGreatDoor.X y.a)) := fun X h => by rw [(r1.below h r1.lt).cell?]; rfl
  refine region_headsT (S := fun X => Below W.heap.size W X) 9 rfl (by kernel_rfl) (Below.refl _ _).drew fun hS => ?_
  refine headsT_takeD (i := 0) (d := 12) (v := .int .i64 0) (by kernel_rfl) rfl rfl (by omega) (by kernel_rfl) (by kernel_rfl) (fun c a w h => h) (yieldsIf_op rfl (fun w => by first | rfl | kernel_rfl | (go_simp; done))) hS ?_
  simp only [List.setIfInBounds_toArray, List.set_cons_succ, List.set_cons_zero]
  refine headsT_takeD (i := 1) (d := 13) (v := .func (.func 70) #[] #[]) (by kernel_rfl) rfl rfl (by omega) (by kernel_rfl) (by kernel_rfl) (fun c a w h => h) (yieldsIf_op rfl (fun w => by first | rfl | kernel_rfl | (go_simp; done))) hS ?_
  simp only [List.setIfInBounds_toArray, List.set_cons_succ, List.set_cons_zero]
  refine headsT_takeD (i := 2) (d := 14) (v := .int .i64 0) (by kernel_rfl) rfl rfl (by omega) (by kernel_rfl) (by kernel_rfl) (fun c a w h => h) (yieldsIf_op rfl (fun w => by first | rfl | kernel_rfl | (go_simp; done))) hS ?_
  simp only [List.setIfInBounds_toArray, List.set_cons_succ, List.set_cons_zero]
  refine headsT_takeD (i := 3) (d := 15) (v := .pointer (some ⟨w.heap.size, 0, none⟩)) (by kernel_rfl) rfl rfl (by omega) (by kernel_rfl) (by kernel_rfl) (fun c a w h => h) (yieldsIf_op rfl (fun w => by first | rfl | kernel_rfl | (go_simp; done))) hS ?_
  simp only [List.setIfInBounds_toArray, List.set_cons_succ, List.set_cons_zero]
  refine headsT_takeD (i := 4) (d := 16) (v := .int .u64 (X x.a)) (by kernel_rfl) rfl rfl (by omega) (by kernel_rfl) (by kernel_rfl) (fun c a w h => h) (.inl ⟨by first | rfl | kernel_rfl, fun W' h => by have q0 := ha W' h; have q1 := hb W' h; go_simp⟩) hS ?_
  simp only [List.setIfInBounds_toArray, List.set_cons_succ, List.set_cons_zero]
  refine headsT_takeD (i := 5) (d := 17) (v := .int .i64 0) (by kernel_rfl) rfl rfl (by omega) (by kernel_rfl) (by kernel_rfl) (fun c a w h => h) (yieldsIf_op rfl (fun w => by first | rfl | kernel_rfl | (go_simp; done))) hS ?_
  simp only [List.setIfInBounds_toArray, List.set_cons_succ, List.set_cons_zero]
  refine headsT_takeD (i := 6) (d := 18) (v := .pointer (some ⟨w.heap.size + 1, 0, none⟩)) (by kernel_rfl) rfl rfl (by omega) (by kernel_rfl) (by kernel_rfl) (fun c a w h => h) (yieldsIf_op rfl (fun w => by first | rfl | kernel_rfl | (go_simp; done))) hS ?_
  simp only [List.setIfInBounds_toArray, List.set_cons_succ, List.set_cons_zero]
  refine headsT_takeD (i := 7) (d := 19) (v := .int .u64 (X y.a)) (by kernel_rfl) rfl rfl (by omega) (by kernel_rfl) (by kernel_rfl) (fun c a w h => h) (.inl ⟨by first | rfl | kernel_rfl, fun W' h => by have q0 := ha W' h; have q1 := hb W' h; go_simp⟩) hS ?_
  simp only [List.setIfInBounds_toArray, List.set_cons_succ, List.set_cons_zero]
  refine headsT_ready (rs := [8]) (by kernel_rfl) (by simp) (AllReadyT.cons (by omega) rfl (fun K' hK => ?_) AllReadyT.nil)
  refine callD (d := 20) (g := 70) (args := #[.int .u64 (X x.a), .int .u64 (X y.a)]) rfl rfl (by first | kernel_rfl | (simp [execOp, resolve, invoke, Act.eval]) | go_simp) ?_
  refine (or64 _ x.a y.a).mono ?_
  rintro e Wa ⟨rfl, rfl⟩
  refine ⟨_, rfl, hK.out _ _ hS fun _ => ?_⟩
  clear hK ha hb
  simp only [List.setIfInBounds_toArray, List.set_cons_succ, List.set_cons_zero]
  refine headsT_tail (by kernel_rfl) ?_
  simp only [List.drop]
  replace r0 := r0.drew
  replace r1 := r1.drew
  replace r2 := r2.drew
  replace r3 := r3.drew
  replace hB := hB.drew
  replace hs' : w.heap.size + 4 ≤ W.drew.heap.size := hs'
  clear hS
  generalize W.drew = Y at *
  have e3 : Y.cell? ⟨w.heap.size + 1 + 1 + 1, 0, none⟩ = some (.int .u64 0) := by rw [r3.cell?]; rfl
  have f3 := r3.frozen 0
  go_wp2_with fail
  replace r3 : Row oV (Y.setCell ⟨w.heap.size + 1 + 1 + 1, 0, none⟩ (.int .u64 (X (x.a ||| y.a)))) (w.heap.size + 1 + 1 + 1) 80 [ow (X (x.a ||| y.a)), ow 0, ow 0, ow 0] := r3.set 0 (ow (X (x.a ||| y.a)))
  replace r0 := r0.set_other (b' := w.heap.size + 1 + 1 + 1) (by omega) 0 (.int .u64 (X (x.a ||| y.a)))
  replace r1 := r1.set_other (b' := w.heap.size + 1 + 1 + 1) (by omega) 0 (.int .u64 (X (x.a ||| y.a)))
  replace r2 := r2.set_other (b' := w.heap.size + 1 + 1 + 1) (by omega) 0 (.int .u64 (X (x.a ||| y.a)))
  replace hB := below_set hB (b := w.heap.size + 1 + 1 + 1) 0 (by omega) (.int .u64 (X (x.a ||| y.a)))
  replace hs' : w.heap.size + 4 ≤ (Y.setCell ⟨w.heap.size + 1 + 1 + 1, 0, none⟩ (.int .u64 (X (x.a ||| y.a)))).heap.size := by simpa using hs'
  clear e3 f3
  generalize (Y.setCell ⟨w.heap.size + 1 + 1 + 1, 0, none⟩ (.int .u64 (X (x.a ||| y.a)))) = W at *
  refine rounds_step (n := 3) ?_
  go_upto_region 5 with (fail)
  have ha : ∀ X, Below W.heap.size W X → X.cell? ⟨w.heap.size, 1, none⟩ = some (.int .u64 (Go.Proofs.YtgflelodpcgmbaaGreatDoor.X x.b)) := fun X h => by rw [(r0.below h r0.lt).cell?]; rfl
  have hb : ∀ X, Below W.heap.size W X → X.cell? ⟨w.heap.size + 1, 1, none⟩ = some (.int .u64 (Go.Proofs.YtgflelodpcgmbaaGreatDoor.X y.b)) := fun X h => by rw [(r1.below h r1.lt).cell?]; rfl
  refine region_headsT (S := fun X => Below W.heap.size W X) 9 rfl (by kernel_rfl) (Below.refl _ _).drew fun hS => ?_
  refine headsT_takeD (i := 0) (d := 12) (v := .int .i64 1) (by kernel_rfl) rfl rfl (by omega) (by kernel_rfl) (by kernel_rfl) (fun c a w h => h) (yieldsIf_op rfl (fun w => by first | rfl | kernel_rfl | (go_simp; done))) hS ?_
  simp only [List.setIfInBounds_toArray, List.set_cons_succ, List.set_cons_zero]
  refine headsT_takeD (i := 1) (d := 13) (v := .func (.func 70) #[] #[]) (by kernel_rfl) rfl rfl (by omega) (by kernel_rfl) (by kernel_rfl) (fun c a w h => h) (yieldsIf_op rfl (fun w => by first | rfl | kernel_rfl | (go_simp; done))) hS ?_
  simp only [List.setIfInBounds_toArray, List.set_cons_succ, List.set_cons_zero]
  refine headsT_takeD (i := 2) (d := 14) (v := .int .i64 1) (by kernel_rfl) rfl rfl (by omega) (by kernel_rfl) (by kernel_rfl) (fun c a w h => h) (yieldsIf_op rfl (fun w => by first | rfl | kernel_rfl | (go_simp; done))) hS ?_
  simp only [List.setIfInBounds_toArray, List.set_cons_succ, List.set_cons_zero]
  refine headsT_takeD (i := 3) (d := 15) (v := .pointer (some ⟨w.heap.size, 1, none⟩)) (by kernel_rfl) rfl rfl (by omega) (by kernel_rfl) (by kernel_rfl) (fun c a w h => h) (yieldsIf_op rfl (fun w => by first | rfl | kernel_rfl | (go_simp; done))) hS ?_
  simp only [List.setIfInBounds_toArray, List.set_cons_succ, List.set_cons_zero]
  refine headsT_takeD (i := 4) (d := 16) (v := .int .u64 (X x.b)) (by kernel_rfl) rfl rfl (by omega) (by kernel_rfl) (by kernel_rfl) (fun c a w h => h) (.inl ⟨by first | rfl | kernel_rfl, fun W' h => by have q0 := ha W' h; have q1 := hb W' h; go_simp⟩) hS ?_
  simp only [List.setIfInBounds_toArray, List.set_cons_succ, List.set_cons_zero]
  refine headsT_takeD (i := 5) (d := 17) (v := .int .i64 1) (by kernel_rfl) rfl rfl (by omega) (by kernel_rfl) (by kernel_rfl) (fun c a w h => h) (yieldsIf_op rfl (fun w => by first | rfl | kernel_rfl | (go_simp; done))) hS ?_
  simp only [List.setIfInBounds_toArray, List.set_cons_succ, List.set_cons_zero]
  refine headsT_takeD (i := 6) (d := 18) (v := .pointer (some ⟨w.heap.size + 1, 1, none⟩)) (by kernel_rfl) rfl rfl (by omega) (by kernel_rfl) (by kernel_rfl) (fun c a w h => h) (yieldsIf_op rfl (fun w => by first | rfl | kernel_rfl | (go_simp; done))) hS ?_
  simp only [List.setIfInBounds_toArray, List.set_cons_succ, List.set_cons_zero]
  refine headsT_takeD (i := 7) (d := 19) (v := .int .u64 (X y.b)) (by kernel_rfl) rfl rfl (by omega) (by kernel_rfl) (by kernel_rfl) (fun c a w h => h) (.inl ⟨by first | rfl | kernel_rfl, fun W' h => by have q0 := ha W' h; have q1 := hb W' h; go_simp⟩) hS ?_
  simp only [List.setIfInBounds_toArray, List.set_cons_succ, List.set_cons_zero]
  refine headsT_ready (rs := [8]) (by kernel_rfl) (by simp) (AllReadyT.cons (by omega) rfl (fun K' hK => ?_) AllReadyT.nil)
  refine callD (d := 20) (g := 70) (args := #[.int .u64 (X x.b), .int .u64 (X y.b)]) rfl rfl (by first | kernel_rfl | (simp [execOp, resolve, invoke, Act.eval]) | go_simp) ?_
  refine (or64 _ x.b y.b).mono ?_
  rintro e Wa ⟨rfl, rfl⟩
  refine ⟨_, rfl, hK.out _ _ hS fun _ => ?_⟩
  clear hK ha hb
  simp only [List.setIfInBounds_toArray, List.set_cons_succ, List.set_cons_zero]
  refine headsT_tail (by kernel_rfl) ?_
  simp only [List.drop]
  replace r0 := r0.drew
  replace r1 := r1.drew
  replace r2 := r2.drew
  replace r3 := r3.drew
  replace hB := hB.drew
  replace hs' : w.heap.size + 4 ≤ W.drew.heap.size := hs'
  clear hS
  generalize W.drew = Y at *
  have e3 : Y.cell? ⟨w.heap.size + 1 + 1 + 1, 1, none⟩ = some (.int .u64 0) := by rw [r3.cell?]; rfl
  have f3 := r3.frozen 1
  go_wp2_with fail
  replace r3 : Row oV (Y.setCell ⟨w.heap.size + 1 + 1 + 1, 1, none⟩ (.int .u64 (X (x.b ||| y.b)))) (w.heap.size + 1 + 1 + 1) 80 [ow (X (x.a ||| y.a)), ow (X (x.b ||| y.b)), ow 0, ow 0] := r3.set 1 (ow (X (x.b ||| y.b)))
  replace r0 := r0.set_other (b' := w.heap.size + 1 + 1 + 1) (by omega) 1 (.int .u64 (X (x.b ||| y.b)))
  replace r1 := r1.set_other (b' := w.heap.size + 1 + 1 + 1) (by omega) 1 (.int .u64 (X (x.b ||| y.b)))
  replace r2 := r2.set_other (b' := w.heap.size + 1 + 1 + 1) (by omega) 1 (.int .u64 (X (x.b ||| y.b)))
  replace hB := below_set hB (b := w.heap.size + 1 + 1 + 1) 1 (by omega) (.int .u64 (X (x.b ||| y.b)))
  replace hs' : w.heap.size + 4 ≤ (Y.setCell ⟨w.heap.size + 1 + 1 + 1, 1, none⟩ (.int .u64 (X (x.b ||| y.b)))).heap.size := by simpa using hs'
  clear e3 f3
  generalize (Y.setCell ⟨w.heap.size + 1 + 1 + 1, 1, none⟩ (.int .u64 (X (x.b ||| y.b)))) = W at *
  refine rounds_step (n := 2) ?_
  go_upto_region 5 with (fail)
  have ha : ∀ X, Below W.heap.size W X → X.cell? ⟨w.heap.size, 2, none⟩ = some (.int .u64 (Go.Proofs.YtgflelodpcgmbaaGreatDoor.X x.c)) := fun X h => by rw [(r0.below h r0.lt).cell?]; rfl
  have hb : ∀ X, Below W.heap.size W X → X.cell? ⟨w.heap.size + 1, 2, none⟩ = some (.int .u64 (Go.Proofs.YtgflelodpcgmbaaGreatDoor.X y.c)) := fun X h => by rw [(r1.below h r1.lt).cell?]; rfl
  refine region_headsT (S := fun X => Below W.heap.size W X) 9 rfl (by kernel_rfl) (Below.refl _ _).drew fun hS => ?_
  refine headsT_takeD (i := 0) (d := 12) (v := .int .i64 2) (by kernel_rfl) rfl rfl (by omega) (by kernel_rfl) (by kernel_rfl) (fun c a w h => h) (yieldsIf_op rfl (fun w => by first | rfl | kernel_rfl | (go_simp; done))) hS ?_
  simp only [List.setIfInBounds_toArray, List.set_cons_succ, List.set_cons_zero]
  refine headsT_takeD (i := 1) (d := 13) (v := .func (.func 70) #[] #[]) (by kernel_rfl) rfl rfl (by omega) (by kernel_rfl) (by kernel_rfl) (fun c a w h => h) (yieldsIf_op rfl (fun w => by first | rfl | kernel_rfl | (go_simp; done))) hS ?_
  simp only [List.setIfInBounds_toArray, List.set_cons_succ, List.set_cons_zero]
  refine headsT_takeD (i := 2) (d := 14) (v := .int .i64 2) (by kernel_rfl) rfl rfl (by omega) (by kernel_rfl) (by kernel_rfl) (fun c a w h => h) (yieldsIf_op rfl (fun w => by first | rfl | kernel_rfl | (go_simp; done))) hS ?_
  simp only [List.setIfInBounds_toArray, List.set_cons_succ, List.set_cons_zero]
  refine headsT_takeD (i := 3) (d := 15) (v := .pointer (some ⟨w.heap.size, 2, none⟩)) (by kernel_rfl) rfl rfl (by omega) (by kernel_rfl) (by kernel_rfl) (fun c a w h => h) (yieldsIf_op rfl (fun w => by first | rfl | kernel_rfl | (go_simp; done))) hS ?_
  simp only [List.setIfInBounds_toArray, List.set_cons_succ, List.set_cons_zero]
  refine headsT_takeD (i := 4) (d := 16) (v := .int .u64 (X x.c)) (by kernel_rfl) rfl rfl (by omega) (by kernel_rfl) (by kernel_rfl) (fun c a w h => h) (.inl ⟨by first | rfl | kernel_rfl, fun W' h => by have q0 := ha W' h; have q1 := hb W' h; go_simp⟩) hS ?_
  simp only [List.setIfInBounds_toArray, List.set_cons_succ, List.set_cons_zero]
  refine headsT_takeD (i := 5) (d := 17) (v := .int .i64 2) (by kernel_rfl) rfl rfl (by omega) (by kernel_rfl) (by kernel_rfl) (fun c a w h => h) (yieldsIf_op rfl (fun w => by first | rfl | kernel_rfl | (go_simp; done))) hS ?_
  simp only [List.setIfInBounds_toArray, List.set_cons_succ, List.set_cons_zero]
  refine headsT_takeD (i := 6) (d := 18) (v := .pointer (some ⟨w.heap.size + 1, 2, none⟩)) (by kernel_rfl) rfl rfl (by omega) (by kernel_rfl) (by kernel_rfl) (fun c a w h => h) (yieldsIf_op rfl (fun w => by first | rfl | kernel_rfl | (go_simp; done))) hS ?_
  simp only [List.setIfInBounds_toArray, List.set_cons_succ, List.set_cons_zero]
  refine headsT_takeD (i := 7) (d := 19) (v := .int .u64 (X y.c)) (by kernel_rfl) rfl rfl (by omega) (by kernel_rfl) (by kernel_rfl) (fun c a w h => h) (.inl ⟨by first | rfl | kernel_rfl, fun W' h => by have q0 := ha W' h; have q1 := hb W' h; go_simp⟩) hS ?_
  simp only [List.setIfInBounds_toArray, List.set_cons_succ, List.set_cons_zero]
  refine headsT_ready (rs := [8]) (by kernel_rfl) (by simp) (AllReadyT.cons (by omega) rfl (fun K' hK => ?_) AllReadyT.nil)
  refine callD (d := 20) (g := 70) (args := #[.int .u64 (X x.c), .int .u64 (X y.c)]) rfl rfl (by first | kernel_rfl | (simp [execOp, resolve, invoke, Act.eval]) | go_simp) ?_
  refine (or64 _ x.c y.c).mono ?_
  rintro e Wa ⟨rfl, rfl⟩
  refine ⟨_, rfl, hK.out _ _ hS fun _ => ?_⟩
  clear hK ha hb
  simp only [List.setIfInBounds_toArray, List.set_cons_succ, List.set_cons_zero]
  refine headsT_tail (by kernel_rfl) ?_
  simp only [List.drop]
  replace r0 := r0.drew
  replace r1 := r1.drew
  replace r2 := r2.drew
  replace r3 := r3.drew
  replace hB := hB.drew
  replace hs' : w.heap.size + 4 ≤ W.drew.heap.size := hs'
  clear hS
  generalize W.drew = Y at *
  have e3 : Y.cell? ⟨w.heap.size + 1 + 1 + 1, 2, none⟩ = some (.int .u64 0) := by rw [r3.cell?]; rfl
  have f3 := r3.frozen 2
  go_wp2_with fail
  replace r3 : Row oV (Y.setCell ⟨w.heap.size + 1 + 1 + 1, 2, none⟩ (.int .u64 (X (x.c ||| y.c)))) (w.heap.size + 1 + 1 + 1) 80 [ow (X (x.a ||| y.a)), ow (X (x.b ||| y.b)), ow (X (x.c ||| y.c)), ow 0] := r3.set 2 (ow (X (x.c ||| y.c)))
  replace r0 := r0.set_other (b' := w.heap.size + 1 + 1 + 1) (by omega) 2 (.int .u64 (X (x.c ||| y.c)))
  replace r1 := r1.set_other (b' := w.heap.size + 1 + 1 + 1) (by omega) 2 (.int .u64 (X (x.c ||| y.c)))
  replace r2 := r2.set_other (b' := w.heap.size + 1 + 1 + 1) (by omega) 2 (.int .u64 (X (x.c ||| y.c)))
  replace hB := below_set hB (b := w.heap.size + 1 + 1 + 1) 2 (by omega) (.int .u64 (X (x.c ||| y.c)))
  replace hs' : w.heap.size + 4 ≤ (Y.setCell ⟨w.heap.size + 1 + 1 + 1, 2, none⟩ (.int .u64 (X (x.c ||| y.c)))).heap.size := by simpa using hs'
  clear e3 f3
  generalize (Y.setCell ⟨w.heap.size + 1 + 1 + 1, 2, none⟩ (.int .u64 (X (x.c ||| y.c)))) = W at *
  refine rounds_step (n := 1) ?_
  go_upto_region 5 with (fail)
  have ha : ∀ X, Below W.heap.size W X → X.cell? ⟨w.heap.size, 3, none⟩ = some (.int .u64 (Go.Proofs.YtgflelodpcgmbaaGreatDoor.X x.d)) := fun X h => by rw [(r0.below h r0.lt).cell?]; rfl
  have hb : ∀ X, Below W.heap.size W X → X.cell? ⟨w.heap.size + 1, 3, none⟩ = some (.int .u64 (Go.Proofs.YtgflelodpcgmbaaGreatDoor.X y.d)) := fun X h => by rw [(r1.below h r1.lt).cell?]; rfl
  refine region_headsT (S := fun X => Below W.heap.size W X) 9 rfl (by kernel_rfl) (Below.refl _ _).drew fun hS => ?_
  refine headsT_takeD (i := 0) (d := 12) (v := .int .i64 3) (by kernel_rfl) rfl rfl (by omega) (by kernel_rfl) (by kernel_rfl) (fun c a w h => h) (yieldsIf_op rfl (fun w => by first | rfl | kernel_rfl | (go_simp; done))) hS ?_
  simp only [List.setIfInBounds_toArray, List.set_cons_succ, List.set_cons_zero]
  refine headsT_takeD (i := 1) (d := 13) (v := .func (.func 70) #[] #[]) (by kernel_rfl) rfl rfl (by omega) (by kernel_rfl) (by kernel_rfl) (fun c a w h => h) (yieldsIf_op rfl (fun w => by first | rfl | kernel_rfl | (go_simp; done))) hS ?_
  simp only [List.setIfInBounds_toArray, List.set_cons_succ, List.set_cons_zero]
  refine headsT_takeD (i := 2) (d := 14) (v := .int .i64 3) (by kernel_rfl) rfl rfl (by omega) (by kernel_rfl) (by kernel_rfl) (fun c a w h => h) (yieldsIf_op rfl (fun w => by first | rfl | kernel_rfl | (go_simp; done))) hS ?_
  simp only [List.setIfInBounds_toArray, List.set_cons_succ, List.set_cons_zero]
  refine headsT_takeD (i := 3) (d := 15) (v := .pointer (some ⟨w.heap.size, 3, none⟩)) (by kernel_rfl) rfl rfl (by omega) (by kernel_rfl) (by kernel_rfl) (fun c a w h => h) (yieldsIf_op rfl (fun w => by first | rfl | kernel_rfl | (go_simp; done))) hS ?_
  simp only [List.setIfInBounds_toArray, List.set_cons_succ, List.set_cons_zero]
  refine headsT_takeD (i := 4) (d := 16) (v := .int .u64 (X x.d)) (by kernel_rfl) rfl rfl (by omega) (by kernel_rfl) (by kernel_rfl) (fun c a w h => h) (.inl ⟨by first | rfl | kernel_rfl, fun W' h => by have q0 := ha W' h; have q1 := hb W' h; go_simp⟩) hS ?_
  simp only [List.setIfInBounds_toArray, List.set_cons_succ, List.set_cons_zero]
  refine headsT_takeD (i := 5) (d := 17) (v := .int .i64 3) (by kernel_rfl) rfl rfl (by omega) (by kernel_rfl) (by kernel_rfl) (fun c a w h => h) (yieldsIf_op rfl (fun w => by first | rfl | kernel_rfl | (go_simp; done))) hS ?_
  simp only [List.setIfInBounds_toArray, List.set_cons_succ, List.set_cons_zero]
  refine headsT_takeD (i := 6) (d := 18) (v := .pointer (some ⟨w.heap.size + 1, 3, none⟩)) (by kernel_rfl) rfl rfl (by omega) (by kernel_rfl) (by kernel_rfl) (fun c a w h => h) (yieldsIf_op rfl (fun w => by first | rfl | kernel_rfl | (go_simp; done))) hS ?_
  simp only [List.setIfInBounds_toArray, List.set_cons_succ, List.set_cons_zero]
  refine headsT_takeD (i := 7) (d := 19) (v := .int .u64 (X y.d)) (by kernel_rfl) rfl rfl (by omega) (by kernel_rfl) (by kernel_rfl) (fun c a w h => h) (.inl ⟨by first | rfl | kernel_rfl, fun W' h => by have q0 := ha W' h; have q1 := hb W' h; go_simp⟩) hS ?_
  simp only [List.setIfInBounds_toArray, List.set_cons_succ, List.set_cons_zero]
  refine headsT_ready (rs := [8]) (by kernel_rfl) (by simp) (AllReadyT.cons (by omega) rfl (fun K' hK => ?_) AllReadyT.nil)
  refine callD (d := 20) (g := 70) (args := #[.int .u64 (X x.d), .int .u64 (X y.d)]) rfl rfl (by first | kernel_rfl | (simp [execOp, resolve, invoke, Act.eval]) | go_simp) ?_
  refine (or64 _ x.d y.d).mono ?_
  rintro e Wa ⟨rfl, rfl⟩
  refine ⟨_, rfl, hK.out _ _ hS fun _ => ?_⟩
  clear hK ha hb
  simp only [List.setIfInBounds_toArray, List.set_cons_succ, List.set_cons_zero]
  refine headsT_tail (by kernel_rfl) ?_
  simp only [List.drop]
  replace r0 := r0.drew
  replace r1 := r1.drew
  replace r2 := r2.drew
  replace r3 := r3.drew
  replace hB := hB.drew
  replace hs' : w.heap.size + 4 ≤ W.drew.heap.size := hs'
  clear hS
  generalize W.drew = Y at *
  have e3 : Y.cell? ⟨w.heap.size + 1 + 1 + 1, 3, none⟩ = some (.int .u64 0) := by rw [r3.cell?]; rfl
  have f3 := r3.frozen 3
  go_wp2_with fail
  replace r3 : Row oV (Y.setCell ⟨w.heap.size + 1 + 1 + 1, 3, none⟩ (.int .u64 (X (x.d ||| y.d)))) (w.heap.size + 1 + 1 + 1) 80 [ow (X (x.a ||| y.a)), ow (X (x.b ||| y.b)), ow (X (x.c ||| y.c)), ow (X (x.d ||| y.d))] := r3.set 3 (ow (X (x.d ||| y.d)))
  replace r0 := r0.set_other (b' := w.heap.size + 1 + 1 + 1) (by omega) 3 (.int .u64 (X (x.d ||| y.d)))
  replace r1 := r1.set_other (b' := w.heap.size + 1 + 1 + 1) (by omega) 3 (.int .u64 (X (x.d ||| y.d)))
  replace r2 := r2.set_other (b' := w.heap.size + 1 + 1 + 1) (by omega) 3 (.int .u64 (X (x.d ||| y.d)))
  replace hB := below_set hB (b := w.heap.size + 1 + 1 + 1) 3 (by omega) (.int .u64 (X (x.d ||| y.d)))
  replace hs' : w.heap.size + 4 ≤ (Y.setCell ⟨w.heap.size + 1 + 1 + 1, 3, none⟩ (.int .u64 (X (x.d ||| y.d)))).heap.size := by simpa using hs'
  clear e3 f3
  generalize (Y.setCell ⟨w.heap.size + 1 + 1 + 1, 3, none⟩ (.int .u64 (X (x.d ||| y.d)))) = W at *
  refine rounds_step (n := 0) ?_
  go_wp2_with (first
    | ((with_reducible refine load_agg (f := oV) (l := clL (x.union y)) (C := clA (x.union y)) aggCl (.tmp 7) ?_ ?_ (w.heap.size + 1 + 1 + 1) 0 ?_ (Row.at r3) rfl ?_); rfl; rfl; rfl)
    | ((with_reducible refine store_agg (f := oV) (l := [ow 0, ow 0, ow 0, ow 0]) (l' := clL (x.union y)) (t := 80) (C := clA (x.union y)) aggCl (.tmp 6) (.tmp 23) ?_ ?_ (w.heap.size + 1 + 1) ?_ ?_ ?_ r2 ?_ oV_one ?_); rfl; rfl; rfl; rfl; rfl; rfl; (intro W6 hs6 hG6 hz6)))
  refine bodyPost_ret (results_agg (f := oV) (l := clL (x.union y)) rfl _ aggCl (w.heap.size + 1 + 1) 0 rfl hs6.at) rfl ?_
  exact ⟨rfl, hB.grown hG6 hB.size (fun k e => by cases e; omega)⟩

theorem clUnion (w : World) (x y : Cl) : Calls Tryz.prog 35 #[.agg (clA x), .agg (clA y)] w fun e w' => e = .returned (.agg (clA (x.union y))) ∧ Below w.heap.size w w' := by
  go_enter Tryz.func35, Tryz.ntmps35
  go_upto_region 1 with (fail)
  obtain ⟨W, hW, hB, hs, r0, r1, r2⟩ : ∃ W, (((w.alloc (.cells (clA x) 80)).alloc (.cells (clA y) 80)).alloc (.cells zCl 80)) = W ∧ Below w.heap.size w W ∧ W.heap.size = w.heap.size + 3 ∧ W.heap[w.heap.size]? = some (.cells (clA x) 80 (0, 0)) ∧ W.heap[w.heap.size + 1]? = some (.cells (clA y) 80 (0, 0)) ∧ W.heap[w.heap.size + 1 + 1]? = some (.cells zCl 80 (0, 0)) := by
    refine ⟨_, rfl, ?_, by simp, ?_, ?_, ?_⟩
    · exact below_al (below_al (below_al (Below.refl _ _) (Nat.le_refl _) _) (Nat.le_refl _) _) (Nat.le_refl _) _
    all_goals repeat (first | (refine heap_new' _ _ _ ?_; (simp; done)) | (refine (Below.heap_alloc _ _ _ ?_).trans ?_; · (simp <;> omega)))
  rw [hW]
  clear hW
  replace r0 : Row oV W w.heap.size 80 (clL x) := r0
  replace r1 : Row oV W (w.heap.size + 1) 80 (clL y) := r1
  replace r2 : Row oV W (w.heap.size + 1 + 1) 80 [ow 0, ow 0, ow 0, ow 0] := r2
  have hs' : w.heap.size + 3 ≤ W.heap.size := Nat.le_of_eq hs.symm
  clear hs
  go_wp2_with (first
    | ((with_reducible refine load_agg (f := oV) (l := clL x) (C := clA x) aggCl (.tmp 2) ?_ ?_ w.heap.size 0 ?_ r0.at rfl ?_); rfl; rfl; rfl)
    | ((with_reducible refine load_agg (f := oV) (l := clL y) (C := clA y) aggCl (.tmp 3) ?_ ?_ (w.heap.size + 1) 0 ?_ r1.at rfl ?_); rfl; rfl; rfl))
  refine (clCombine W x y).mono ?_
  rintro e W2 ⟨rfl, hB2⟩
  replace r2 := r2.below hB2 r2.lt
  replace hB := hB.trans (hB2.mono hB.size)
  go_wp2_with (first
    | ((with_reducible refine store_agg (f := oV) (l := [ow 0, ow 0, ow 0, ow 0]) (l' := clL (x.union y)) (t := 80) (C := clA (x.union y)) aggCl (.tmp 4) (.tmp 7) ?_ ?_ (w.heap.size + 1 + 1) ?_ ?_ ?_ r2 ?_ oV_one ?_); rfl; rfl; rfl; rfl; rfl; rfl; (intro W6 hs6 hG6 hz6)))
  refine bodyPost_ret (results_agg (f := oV) (l := clL (x.union y)) rfl _ aggCl (w.heap.size + 1 + 1) 0 rfl hs6.at) rfl ?_
  exact ⟨rfl, hB.grown hG6 hB.size (fun k e => by cases e; omega)⟩
end Go.Proofs.YtgflelodpcgmbaaGreatDoor
/- Slices of structs that are only read; class.Index. -/
namespace Go.Proofs.YtgflelodpcgmbaaGreatDoor
open Go Go.RowKit Mem
set_option maxRecDepth 100000

/-- v reads as l, each element K cells -/
def RdK {α : Type} (K : Nat) (enc : α → List OC) (w : World) (v : Value) (l : List α) : Prop :=
  (∃ p, v = .slice p 0 0 ∧ l = []) ∨ ∃ b o cap, v = .slice (some ⟨b, o, none⟩) l.length cap ∧ l.length ≤ cap ∧ (∀ i (h : i < l.length), At oV w b (o + i * K) (enc l[i])) ∧ b < w.heap.size
section
variable {α : Type} {K : Nat} {enc : α → List OC} {w w' : World} {v : Value} {l : List α}
theorem RdK.slice (h : RdK K enc w v l) : ∃ p cap, v = .slice p l.length cap := by
  rcases h with ⟨p, rfl, rfl⟩ | ⟨b, o, cap, rfl, _⟩
  · exact ⟨p, 0, rfl⟩
  · exact ⟨_, _, rfl⟩
theorem RdK.below (h : RdK K enc w v l) (hb : Below w.heap.size w w') : RdK K enc w' v l := by
  rcases h with hn | ⟨b, o, cap, rfl, hc, ha, hlt⟩
  · exact .inl hn
  · exact .inr ⟨b, o, cap, rfl, hc, fun i hi => (ha i hi).below hb hlt, Nat.lt_of_lt_of_le hlt hb.size⟩
theorem RdK.elem {p : Option Addr} {n c : Nat} (h : RdK K enc w (.slice p n c) l) (k : Nat) (hk : k < l.length) : ∃ b o, p = some ⟨b, o, none⟩ ∧ At oV w b (o + k * K) (enc l[k]) ∧ l.length ≤ c ∧ b < w.heap.size := by
  rcases h with ⟨_, _, rfl⟩ | ⟨b, o, cap, h1, hc, ha, hlt⟩
  · simp at hk
  · cases h1; exact ⟨b, o, rfl, ha k hk, hc, hlt⟩
end

theorem clIndexF (w : World) (c : Cl) (b : UInt8) (bx : Nat) (hb : w.cell? ⟨bx, 0, none⟩ = some (.int .u8 (b.toNat : Int))) (hl : bx < w.heap.size) :
    Calls Tryz.prog 95 #[.agg (clA c), .pointer (some ⟨bx, 0, none⟩)] w fun e w' => e = .returned (.bool (c.has b)) ∧ Below w.heap.size w w' := by
  have hB : Below w.heap.size w (w.alloc (.cells (clA c) 80)) := (Below.refl _ _).alloc (Nat.le_refl _) _
  have hr : Row oV (w.alloc (.cells (clA c) 80)) w.heap.size 80 (clL c) := Row.new _ _ rfl
  have hc : (w.alloc (.cells (clA c) 80)).cell? ⟨bx, 0, none⟩ = some (.int .u8 (b.toNat : Int)) := (hB.cell (p := ⟨bx, 0, none⟩) hl).trans hb
  go_enter Tryz.func95, Tryz.ntmps95
  go_upto_region 1 with (fail)
  generalize (w.alloc (.cells (clA c) 80)) = W at hB hr hc ⊢
  go_wp2_with (first
    | ((with_reducible refine load_agg (f := oV) (l := clL c) (C := clA c) aggCl (.tmp 2) ?_ ?_ w.heap.size 0 ?_ hr.at rfl ?_); rfl; rfl; rfl))
  refine (clHas W c b).mono ?_
  rintro e W2 ⟨rfl, hB2⟩
  go_wp2
  go_ret
  exact ⟨rfl, hB.trans (hB2.mono hB.size)⟩

/-- the first class that has b, or -1 -/
def idxC (l : List Cl) (b : UInt8) : Int := if l.findIdx (·.has b) < l.length then (l.findIdx (·.has b) : Int) else -1

theorem idxC_at (l : List Cl) (b : UInt8) (k : Nat) (hk : k < l.length) (h : l[k].has b = true) (hno : ∀ j (h : j < l.length), j < k → l[j].has b = false) : idxC l b = k := by
  have e : l.findIdx (·.has b) = k := (List.findIdx_eq hk).2 ⟨h, fun j hj => hno j (by omega) hj⟩
  unfold idxC
  rw [e, if_pos hk]
theorem idxC_none (l : List Cl) (b : UInt8) (hno : ∀ j (h : j < l.length), l[j].has b = false) : idxC l b = -1 := by
  have e : l.findIdx (·.has b) = l.length := by
    rw [List.findIdx_eq_length]
    intro x hx
    obtain ⟨j, hj, rfl⟩ := List.getElem_of_mem hx
    exact hno j hj
  unfold idxC
  rw [e, if_neg (Nat.lt_irrefl _)]

set_option maxHeartbeats 4000000 in
theorem clIndexS (w : World) (v : Value) (l : List Cl) (b : UInt8) (bx : Nat) (hv : RdK 4 clL w v l) (hb : w.cell? ⟨bx, 0, none⟩ = some (.int .u8 (b.toNat : Int))) (hl : bx < w.heap.size) (hn : l.length ≤ 4294967296) :
    Calls Tryz.prog 94 #[v, .func (.func 95) #[] #[.pointer (some ⟨bx, 0, none⟩)]] w fun e w' => e = .returned (.int .i64 (idxC l b)) ∧ Below w.heap.size w w' := by
  have HV := Lib.hid hv
  have HB := Lib.hid hb
  obtain ⟨p, cp, rfl⟩ := hv.slice
  clear hv hb
  go_enter Tryz.func94, Tryz.ntmps94
  go_wp2_with fail
  go_loopw [8] (fun i wr => ∃ (k : Nat), k ≤ l.length ∧ i = .int .i64 k ∧ (∀ j (h : j < l.length), j < k → l[j].has b = false) ∧ Below w.heap.size w wr) (fun i _ => l.length - (intOf i).toNat)
  case atStart => exact ⟨0, by omega, rfl, fun j h hj => by omega, Below.refl _ _⟩
  case round =>
    obtain ⟨k, hk, rfl, hno, hB⟩ := hrel
    have HNO := Lib.hid hno
    clear hno
    by_cases hlt : k < l.length
    · obtain ⟨bb, bo, rfl, hA, hcap, hbl⟩ := HV.out.elem k hlt
      have hA2 := hA.below hB hbl
      have hq : (k : Int) < (l.length : Int) := by omega
      clear hA
      go_wp2_with (first
        | ((with_reducible refine load_agg (f := oV) (l := clL l[k]) (C := clA l[k]) aggCl (.tmp 14) ?_ ?_ bb (bo + k * 4) ?_ hA2 rfl ?_); rfl; rfl; rfl))
      refine (clIndexF wr l[k] b bx ((hB.cell (p := ⟨bx, 0, none⟩) hl).trans HB.out) (Nat.lt_of_lt_of_le hl hB.size)).mono ?_
      rintro e w2 ⟨rfl, hB2⟩
      replace hB := hB.trans (hB2.mono hB.size)
      clear hA2 hB2
      cases hh : l[k].has b with
      | true =>
        have hi := idxC_at l b k hlt hh HNO.out
        go_wp2
        go_ret
        exact ⟨by first | rfl | (rw [hi]; rfl), hB⟩
      | false =>
        go_wp2_with fail
        go_roundw
        case rel =>
          refine ⟨k + 1, by omega, by go_num, fun j h hj => ?_, hB⟩
          rcases Nat.lt_or_ge j k with h1 | h1
          · exact HNO.out j h h1
          · obtain rfl : j = k := by omega
            exact hh
        case measure => simp [intOf]; omega
    · have hi := idxC_none l b (fun j h => HNO.out j h (by omega))
      have hq : ¬ (k : Int) < (l.length : Int) := by omega
      go_wp2
      go_ret
      exact ⟨by first | rfl | (rw [hi]; rfl), hB⟩

theorem clIndex (w : World) (v : Value) (l : List Cl) (b : UInt8) (hv : RdK 4 clL w v l) (hn : l.length ≤ 4294967296) :
    Calls Tryz.prog 66 #[v, .int .u8 (b.toNat : Int)] w fun e w' => e = .returned (.int .i64 (idxC l b)) ∧ Below w.heap.size w w' := by
  have hmf : ∀ (fn : Fn) (first cap : Array Value) (w : World), (Instr.makeFunc fn first cap).run Tryz.prog w = .ok (.func fn first cap) w := fun _ _ _ _ => rfl
  have hB : Below w.heap.size w (w.alloc (.cells #[.int .u8 (b.toNat : Int)] 5)) := (Below.refl _ _).alloc (Nat.le_refl _) _
  have hc : (w.alloc (.cells #[.int .u8 (b.toNat : Int)] 5)).cell? ⟨w.heap.size, 0, none⟩ = some (.int .u8 (b.toNat : Int)) := by unfold World.cell?; rw [World.alloc_heap_new]; rfl
  have hl : w.heap.size < (w.alloc (.cells #[.int .u8 (b.toNat : Int)] 5)).heap.size := by simp
  have HV := Lib.hid (hv.below hB)
  obtain ⟨p, cp, rfl⟩ := hv.slice
  clear hv
  go_enter Tryz.func66, Tryz.ntmps66
  go_wp2_with fail
  generalize (w.alloc (.cells #[.int .u8 (b.toNat : Int)] 5)) = W at *
  refine (clIndexS W _ l b w.heap.size HV.out hc hl hn).mono ?_
  rintro e W2 ⟨rfl, hB2⟩
  go_wp2
  go_ret
  exact ⟨rfl, hB.trans (hB2.mono hB.size)⟩
end Go.Proofs.YtgflelodpcgmbaaGreatDoor
