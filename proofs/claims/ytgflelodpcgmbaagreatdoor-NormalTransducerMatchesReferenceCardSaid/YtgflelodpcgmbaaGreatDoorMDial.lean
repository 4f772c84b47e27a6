/- The validity of a statement that appends a field. -/
import Derived.WalkKit
import Derived.Outline
import Derived.OwnWalk
import Derived.LoopTactic
import Derived.WalkSmall
import Derived.Deep.DeepCutAuto
import Derived.Test.YtgflelodpcgmbaaGreatDoorMCells
namespace Go.Proofs.YtgflelodpcgmbaaGreatDoor
open Go.RowKit Mem
set_option maxRecDepth 100000

theorem dIn (w : World) (n lo hi : Int) : Calls Tryz.prog 134 #[.int .i64 n, .int .i64 lo, .int .i64 hi] w fun e w' => e = .returned (.bool (decide (lo ≤ n) && decide (n ≤ hi))) ∧ w' = w := by
  go_enter Tryz.func134, Tryz.ntmps134
  by_cases h1 : lo ≤ n
  · by_cases h2 : n ≤ hi
    · go_wp2
      go_ret
      exact ⟨by simp [h1, h2], rfl⟩
    · go_wp2
      go_ret
      exact ⟨by simp [h2], rfl⟩
  · go_wp2
    go_ret
    exact ⟨by simp; omega, rfl⟩

theorem dSource (w : World) (n : Int) : Calls Tryz.prog 133 #[.int .i64 n] w fun e w' => e = .returned (.bool (decide (0 ≤ n) && decide (n ≤ 11))) ∧ w' = w := by
  go_enter Tryz.func133, Tryz.ntmps133
  go_wp2_with fail
  refine (dIn w n 0 11).mono ?_
  rintro e w' ⟨rfl, rfl⟩
  go_wp2
  go_ret
  exact ⟨rfl, rfl⟩

theorem dHasElse13 (w : World) : Calls Tryz.prog 180 #[.int .i64 13] w fun e w' => e = .returned (.bool false) ∧ w' = w := by
  go_enter Tryz.func180, Tryz.ntmps180
  go_wp2
  go_ret
  exact ⟨rfl, rfl⟩

set_option maxHeartbeats 8000000 in
theorem dRest13 (w : World) (x : Int) (nm : ByteArray) (C : Array Value) (HC : Hid (C = ((stC 13 x nm (-1) (-1)).map oV).toArray)) :
    Calls Tryz.prog 160 #[.agg C] w fun e w' => ∃ C', e = .returned (.agg C') ∧ Hid (C' = ((stC 13 0 ⟨#[]⟩ (-1) (-1)).map oV).toArray) ∧ Below w.heap.size w w' := by
  go_enter Tryz.func160, Tryz.ntmps160
  go_upto_region 1 with (fail)
  obtain ⟨W, hW, hR, hZ, hB, hs⟩ : ∃ W, (w.alloc (.cells C 125)).alloc (.cells ((stC 0 0 ⟨#[]⟩ 0 0).map oV).toArray 125) = W ∧ Row oV W w.heap.size 125 (stC 13 x nm (-1) (-1)) ∧ Row oV W (w.heap.size + 1) 125 (stC 0 0 ⟨#[]⟩ 0 0) ∧ Below w.heap.size w W ∧ w.heap.size + 2 ≤ W.heap.size := by
    refine ⟨_, rfl, Row.alloc (Row.new w _ (by rw [HC.out])) _, heap_new' _ _ _ (by simp), ((Below.refl _ _).alloc (Nat.le_refl _) _).alloc (by simp) _, by simp⟩
  simp only [stC, List.map_cons, List.map_nil, oV, oi, on, ob, os, ow] at hW
  rw [hW]
  clear hW
  have c0 : W.cell? ⟨w.heap.size, 0, none⟩ = some (.int .i64 13) := by rw [hR.cell?]; rfl
  have c1 : W.cell? ⟨w.heap.size, 1, none⟩ = some (.int .i64 x) := by rw [hR.cell?]; rfl
  have c30 : W.cell? ⟨w.heap.size, 30, none⟩ = some (.string nm) := by rw [hR.cell?]; rfl
  have c31 : W.cell? ⟨w.heap.size, 31, none⟩ = some (.int .i64 (-1)) := by rw [hR.cell?]; rfl
  have c32 : W.cell? ⟨w.heap.size, 32, none⟩ = some (.int .i64 (-1)) := by rw [hR.cell?]; rfl
  have f1 := hR.frozen 1
  have f30 := hR.frozen 30
  have f31 := hR.frozen 31
  have f32 := hR.frozen 32
  have HR := Lib.hid hR
  have HZ := Lib.hid hZ
  clear hR hZ
  go_wp2_with fail
  refine (dHasElse13 W).mono ?_
  rintro e W ⟨rfl, rfl⟩
  go_upto_region 42 with (fail)
  have hR4 := (((HR.out.set 31 (oi (-1))).set 32 (oi (-1))).set 1 (oi 0)).set 30 (os ⟨#[]⟩)
  have hZ4 := (((HZ.out.set_other (b' := w.heap.size) (by omega) 31 (oV (oi (-1)))).set_other (b' := w.heap.size) (by omega) 32 (oV (oi (-1)))).set_other (b' := w.heap.size) (by omega) 1 (oV (oi 0))).set_other (b' := w.heap.size) (by omega) 30 (oV (os ⟨#[]⟩))
  have hB4 := below_set (below_set (below_set (below_set hB (b := w.heap.size) 31 (Nat.le_refl _) (oV (oi (-1)))) (b := w.heap.size) 32 (Nat.le_refl _) (oV (oi (-1)))) (b := w.heap.size) 1 (Nat.le_refl _) (oV (oi 0))) (b := w.heap.size) 30 (Nat.le_refl _) (oV (os ⟨#[]⟩))
  simp only [oV, oi, os] at hR4 hZ4 hB4
  obtain ⟨W4, hW4⟩ : ∃ W4, (((W.setCell ⟨w.heap.size, 31, none⟩ (.int .i64 (-1))).setCell ⟨w.heap.size, 32, none⟩ (.int .i64 (-1))).setCell ⟨w.heap.size, 1, none⟩ (.int .i64 0)).setCell ⟨w.heap.size, 30, none⟩ (.string ⟨#[]⟩) = W4 := ⟨_, rfl⟩
  rw [hW4] at hR4 hZ4 hB4 ⊢
  clear hW4 c0 c1 c30 c31 c32 f1 f30 f31 f32 HR HZ hB hs
  replace hR4 : Row oV W4 w.heap.size 125 (stC 13 0 ⟨#[]⟩ (-1) (-1)) := hR4
  obtain ⟨C2, HC2⟩ : ∃ C2, Hid (C2 = ((stC 13 0 ⟨#[]⟩ (-1) (-1)).map oV).toArray) := ⟨_, Lib.hid rfl⟩
  go_wp2_with (first
    | ((with_reducible refine load_agg (f := oV) (l := stC 13 0 ⟨#[]⟩ (-1) (-1)) (aggStmtL _ _ _ _ _) (.tmp 1) ?_ ?_ w.heap.size 0 ?_ hR4.at HC2.out ?_); rfl; rfl; rfl)
    | ((with_reducible refine store_agg (f := oV) (l := stC 0 0 ⟨#[]⟩ 0 0) (l' := stC 13 0 ⟨#[]⟩ (-1) (-1)) (t := 125) (C := C2) (aggStmtL _ _ _ _ _) (.tmp 2) (.tmp 96) ?_ ?_ (w.heap.size + 1) ?_ ?_ ?_ hZ4 ?_ oV_one ?_); rfl; rfl; rfl; exact HC2.out; rfl; rfl; intro W5 hs5 hG5 hz5))
  refine bodyPost_ret (results_agg (f := oV) (l := stC 13 0 ⟨#[]⟩ (-1) (-1)) rfl _ (aggStmtL _ _ _ _ _) (w.heap.size + 1) 0 rfl hs5.at) rfl ?_
  exact ⟨_, rfl, Lib.hid rfl, hB4.grown hG5 (Nat.le_of_lt hR4.lt) (fun k e => by cases e; omega)⟩
end Go.Proofs.YtgflelodpcgmbaaGreatDoor
