/- The validity of a statement that appends a field. -/
import Derived.WalkKit
import Derived.Outline
import Derived.OwnWalk
import Derived.LoopTactic
import Derived.WalkSmall
import Derived.Deep.DeepCutAuto
import Derived.Test.YtllomcmhkocdfaaGreatDoorMCells
namespace Go.Proofs.YtllomcmhkocdfaaGreatDoor
open Go.RowKit Mem
set_option maxRecDepth 100000

theorem dIn (w : World) (n lo hi : Int) : Calls Tryz.prog 99 #[.int .i64 n, .int .i64 lo, .int .i64 hi] w fun e w' => e = .returned (.bool (decide (lo ≤ n) && decide (n ≤ hi))) ∧ w' = w := by
  go_enter Tryz.func99, Tryz.ntmps99
  by_cases h1 : lo ≤ n
  · by_cases h2 : n ≤ hi
    · go_wp2
      go_ret
      exact ⟨by simp [h1, h2], rfl⟩
    · go_wp2
      go_ret
      exact ⟨by simp [h2], rfl⟩
  · go_wp2
    go_ret
    exact ⟨by simp; omega, rfl⟩

theorem dSource (w : World) (n : Int) : Calls Tryz.prog 98 #[.int .i64 n] w fun e w' => e = .returned (.bool (decide (0 ≤ n) && decide (n ≤ 11))) ∧ w' = w := by
  go_enter Tryz.func98, Tryz.ntmps98
  go_wp2_with fail
  refine (dIn w n 0 11).mono ?_
  rintro e w' ⟨rfl, rfl⟩
  go_wp2
  go_ret
  exact ⟨rfl, rfl⟩

end Go.Proofs.YtllomcmhkocdfaaGreatDoor

/- The kinds of statements. -/
namespace Go.Proofs.YtllomcmhkocdfaaGreatDoor
open Go Go.RowKit Mem
set_option maxRecDepth 100000

abbrev stCopy (x : Int) (y : Int) : St := { kind := 1, X := x, Y := y }
abbrev stSplit (x : Int) (y : Int) (z : Int) (B : Sl) (la : Bool) (els : Int) (lb : List UInt8) : St := { kind := 3, X := x, Y := y, Z := z, B := B, last := la, e := els, lb := lb }
abbrev stTrim (x : Int) (y : Int) (k0 : Int) (k1 : Int) (k2 : Int) (k3 : Int) : St := { kind := 7, X := x, Y := y, c0 := k0, c1 := k1, c2 := k2, c3 := k3 }
abbrev stLoop (i : Int) (j : Int) (thn : Int) : St := { kind := 11, I := i, J := j, t := thn }
abbrev stBreak : St := { kind := 12 }
abbrev stField (x : Int) (nm : ByteArray) : St := { kind := 13, X := x, nm := nm }
abbrev stReject (i : Int) : St := { kind := 14, I := i }
abbrev stZ (k : Int) : St := { kind := k }
theorem dHasElse_1 (w : World) : Calls Tryz.prog 148 #[.int .i64 1] w fun e w' => e = .returned (.bool false) ∧ w' = w := by
  go_enter Tryz.func148, Tryz.ntmps148
  go_wp2
  go_ret
  exact ⟨rfl, rfl⟩
theorem dHasElse_3 (w : World) : Calls Tryz.prog 148 #[.int .i64 3] w fun e w' => e = .returned (.bool true) ∧ w' = w := by
  go_enter Tryz.func148, Tryz.ntmps148
  go_wp2
  go_ret
  exact ⟨rfl, rfl⟩
theorem dHasElse_7 (w : World) : Calls Tryz.prog 148 #[.int .i64 7] w fun e w' => e = .returned (.bool false) ∧ w' = w := by
  go_enter Tryz.func148, Tryz.ntmps148
  go_wp2
  go_ret
  exact ⟨rfl, rfl⟩
theorem dHasElse_11 (w : World) : Calls Tryz.prog 148 #[.int .i64 11] w fun e w' => e = .returned (.bool false) ∧ w' = w := by
  go_enter Tryz.func148, Tryz.ntmps148
  go_wp2
  go_ret
  exact ⟨rfl, rfl⟩
theorem dHasElse_12 (w : World) : Calls Tryz.prog 148 #[.int .i64 12] w fun e w' => e = .returned (.bool false) ∧ w' = w := by
  go_enter Tryz.func148, Tryz.ntmps148
  go_wp2
  go_ret
  exact ⟨rfl, rfl⟩
theorem dHasElse_13 (w : World) : Calls Tryz.prog 148 #[.int .i64 13] w fun e w' => e = .returned (.bool false) ∧ w' = w := by
  go_enter Tryz.func148, Tryz.ntmps148
  go_wp2
  go_ret
  exact ⟨rfl, rfl⟩
theorem dHasElse_14 (w : World) : Calls Tryz.prog 148 #[.int .i64 14] w fun e w' => e = .returned (.bool false) ∧ w' = w := by
  go_enter Tryz.func148, Tryz.ntmps148
  go_wp2
  go_ret
  exact ⟨rfl, rfl⟩
end Go.Proofs.YtllomcmhkocdfaaGreatDoor

/- dialect.rest at copies, constants, splits, cuts, takes. -/
namespace Go.Proofs.YtllomcmhkocdfaaGreatDoor
open Go.RowKit Mem
set_option maxRecDepth 100000

set_option maxHeartbeats 8000000 in
theorem dRest_1 (w : World) (x : Int) (y : Int) (C : Array Value) (HC : Hid (C = ((stCopy x y).cs.map oV).toArray)) :
    Calls Tryz.prog 133 #[.agg C] w fun e w' => ∃ C', e = .returned (.agg C') ∧ Hid (C' = ((stZ 1).cs.map oV).toArray) ∧ Below w.heap.size w w' := by
  go_enter Tryz.func133, Tryz.ntmps133
  go_upto_region 1 with (fail)
  obtain ⟨W, hW, hR, hZ, hB, hs⟩ : ∃ W, (w.alloc (.cells C 45)).alloc (.cells zStmtC 45) = W ∧ Row oV W w.heap.size 45 (stCopy x y).cs ∧ Row oV W (w.heap.size + 1) 45 (stC 0 0 ⟨#[]⟩ 0 0) ∧ Below w.heap.size w W ∧ w.heap.size + 2 ≤ W.heap.size := by
    refine ⟨_, rfl, Row.alloc (Row.new w _ (by rw [HC.out])) _, heap_new' _ _ _ (by simp), ((Below.refl _ _).alloc (Nat.le_refl _) _).alloc (by simp) _, by simp⟩
  rw [hW]
  clear hW
  have c0 : W.cell? ⟨w.heap.size, 0, none⟩ = some (.int .i64 1) := by rw [hR.cell?]; rfl
  have c1 : W.cell? ⟨w.heap.size, 1, none⟩ = some (.int .i64 x) := by rw [hR.cell?]; rfl
  have c2 : W.cell? ⟨w.heap.size, 2, none⟩ = some (.int .i64 y) := by rw [hR.cell?]; rfl
  have c31 : W.cell? ⟨w.heap.size, 31, none⟩ = some (.int .i64 (-1)) := by rw [hR.cell?]; rfl
  have c32 : W.cell? ⟨w.heap.size, 32, none⟩ = some (.int .i64 (-1)) := by rw [hR.cell?]; rfl
  have f1 := hR.frozen 1
  have f2 := hR.frozen 2
  have f31 := hR.frozen 31
  have f32 := hR.frozen 32
  have HR := Lib.hid hR
  have HZ := Lib.hid hZ
  clear hR hZ
  go_wp2_with fail
  refine (dHasElse_1 W).mono ?_
  rintro e0 W ⟨rfl, rfl⟩
  go_upto_region 42 with (fail)
  have hR4 := ((((HR.out.set 31 (oi (-1))).set 32 (oi (-1))).set 1 (oi 0)).set 2 (oi 0))
  have hZ4 := ((((HZ.out.set_other (b' := w.heap.size) (by omega) 31 (oV (oi (-1)))).set_other (b' := w.heap.size) (by omega) 32 (oV (oi (-1)))).set_other (b' := w.heap.size) (by omega) 1 (oV (oi 0))).set_other (b' := w.heap.size) (by omega) 2 (oV (oi 0)))
  have hB4 := (below_set (below_set (below_set (below_set hB (b := w.heap.size) 31 (Nat.le_refl _) (oV (oi (-1)))) (b := w.heap.size) 32 (Nat.le_refl _) (oV (oi (-1)))) (b := w.heap.size) 1 (Nat.le_refl _) (oV (oi 0))) (b := w.heap.size) 2 (Nat.le_refl _) (oV (oi 0)))
  simp only [oV, oi, os, ob, ow, Sl.oc] at hR4 hZ4 hB4
  obtain ⟨W4, hW4⟩ : ∃ W4, ((((W.setCell ⟨w.heap.size, 31, none⟩ (.int .i64 (-1))).setCell ⟨w.heap.size, 32, none⟩ (.int .i64 (-1))).setCell ⟨w.heap.size, 1, none⟩ (.int .i64 0)).setCell ⟨w.heap.size, 2, none⟩ (.int .i64 0)) = W4 := ⟨_, rfl⟩
  rw [hW4] at hR4 hZ4 hB4 ⊢
  clear hW4 c0 c1 c2 c31 c32 f1 f2 f31 f32 HR HZ hB hs
  replace hR4 : Row oV W4 w.heap.size 45 (stZ 1).cs := hR4
  obtain ⟨C2, HC2⟩ : ∃ C2, Hid (C2 = ((stZ 1).cs.map oV).toArray) := ⟨_, Lib.hid rfl⟩
  go_wp2_with (first
    | ((with_reducible refine load_agg (f := oV) (l := (stZ 1).cs) (aggSt _) (.tmp 1) ?_ ?_ w.heap.size 0 ?_ hR4.at HC2.out ?_); rfl; rfl; rfl)
    | ((with_reducible refine store_agg (f := oV) (l := stC 0 0 ⟨#[]⟩ 0 0) (l' := (stZ 1).cs) (t := 45) (C := C2) (aggSt _) (.tmp 2) (.tmp 96) ?_ ?_ (w.heap.size + 1) ?_ ?_ ?_ hZ4 ?_ oV_one ?_); rfl; rfl; rfl; exact HC2.out; rfl; rfl; (intro W5 hs5 hG5 hz5)))
  refine bodyPost_ret (results_agg (f := oV) (l := (stZ 1).cs) rfl _ (aggSt _) (w.heap.size + 1) 0 rfl hs5.at) rfl ?_
  exact ⟨_, rfl, Lib.hid rfl, hB4.grown hG5 (Nat.le_of_lt hR4.lt) (fun k e => by cases e; omega)⟩
set_option maxHeartbeats 8000000 in
theorem dRest_3 (w : World) (x : Int) (y : Int) (z : Int) (B : Sl) (la : Bool) (els : Int) (lb : List UInt8) (C : Array Value) (HC : Hid (C = ((stSplit x y z B la els lb).cs.map oV).toArray)) :
    Calls Tryz.prog 133 #[.agg C] w fun e w' => ∃ C', e = .returned (.agg C') ∧ Hid (C' = ((stZ 3).cs.map oV).toArray) ∧ Below w.heap.size w w' := by
  go_enter Tryz.func133, Tryz.ntmps133
  go_upto_region 1 with (fail)
  obtain ⟨W, hW, hR, hZ, hB, hs⟩ : ∃ W, (w.alloc (.cells C 45)).alloc (.cells zStmtC 45) = W ∧ Row oV W w.heap.size 45 (stSplit x y z B la els lb).cs ∧ Row oV W (w.heap.size + 1) 45 (stC 0 0 ⟨#[]⟩ 0 0) ∧ Below w.heap.size w W ∧ w.heap.size + 2 ≤ W.heap.size := by
    refine ⟨_, rfl, Row.alloc (Row.new w _ (by rw [HC.out])) _, heap_new' _ _ _ (by simp), ((Below.refl _ _).alloc (Nat.le_refl _) _).alloc (by simp) _, by simp⟩
  rw [hW]
  clear hW
  have c0 : W.cell? ⟨w.heap.size, 0, none⟩ = some (.int .i64 3) := by rw [hR.cell?]; rfl
  have c1 : W.cell? ⟨w.heap.size, 1, none⟩ = some (.int .i64 x) := by rw [hR.cell?]; rfl
  have c2 : W.cell? ⟨w.heap.size, 2, none⟩ = some (.int .i64 y) := by rw [hR.cell?]; rfl
  have c3 : W.cell? ⟨w.heap.size, 3, none⟩ = some (.int .i64 z) := by rw [hR.cell?]; rfl
  have c7 : W.cell? ⟨w.heap.size, 7, none⟩ = some (.slice B.p B.n B.c) := by rw [hR.cell?]; rfl
  have c8 : W.cell? ⟨w.heap.size, 8, none⟩ = some (.bool la) := by rw [hR.cell?]; rfl
  have c31 : W.cell? ⟨w.heap.size, 31, none⟩ = some (.int .i64 (-1)) := by rw [hR.cell?]; rfl
  have c32 : W.cell? ⟨w.heap.size, 32, none⟩ = some (.int .i64 els) := by rw [hR.cell?]; rfl
  have f1 := hR.frozen 1
  have f2 := hR.frozen 2
  have f3 := hR.frozen 3
  have f7 := hR.frozen 7
  have f8 := hR.frozen 8
  have f31 := hR.frozen 31
  have f32 := hR.frozen 32
  have HR := Lib.hid hR
  have HZ := Lib.hid hZ
  clear hR hZ
  go_wp2_with fail
  refine (dHasElse_3 W).mono ?_
  rintro e0 W ⟨rfl, rfl⟩
  go_upto_region 42 with (fail)
  have hR4 := (((((((HR.out.set 31 (oi (-1))).set 32 (oi (-1))).set 1 (oi 0)).set 2 (oi 0)).set 3 (oi 0)).set 7 Sl.z.oc).set 8 (ob false))
  have hZ4 := (((((((HZ.out.set_other (b' := w.heap.size) (by omega) 31 (oV (oi (-1)))).set_other (b' := w.heap.size) (by omega) 32 (oV (oi (-1)))).set_other (b' := w.heap.size) (by omega) 1 (oV (oi 0))).set_other (b' := w.heap.size) (by omega) 2 (oV (oi 0))).set_other (b' := w.heap.size) (by omega) 3 (oV (oi 0))).set_other (b' := w.heap.size) (by omega) 7 (oV Sl.z.oc)).set_other (b' := w.heap.size) (by omega) 8 (oV (ob false)))
  have hB4 := (below_set (below_set (below_set (below_set (below_set (below_set (below_set hB (b := w.heap.size) 31 (Nat.le_refl _) (oV (oi (-1)))) (b := w.heap.size) 32 (Nat.le_refl _) (oV (oi (-1)))) (b := w.heap.size) 1 (Nat.le_refl _) (oV (oi 0))) (b := w.heap.size) 2 (Nat.le_refl _) (oV (oi 0))) (b := w.heap.size) 3 (Nat.le_refl _) (oV (oi 0))) (b := w.heap.size) 7 (Nat.le_refl _) (oV Sl.z.oc)) (b := w.heap.size) 8 (Nat.le_refl _) (oV (ob false)))
  simp only [oV, oi, os, ob, ow, Sl.oc] at hR4 hZ4 hB4
  obtain ⟨W4, hW4⟩ : ∃ W4, (((((((W.setCell ⟨w.heap.size, 31, none⟩ (.int .i64 (-1))).setCell ⟨w.heap.size, 32, none⟩ (.int .i64 (-1))).setCell ⟨w.heap.size, 1, none⟩ (.int .i64 0)).setCell ⟨w.heap.size, 2, none⟩ (.int .i64 0)).setCell ⟨w.heap.size, 3, none⟩ (.int .i64 0)).setCell ⟨w.heap.size, 7, none⟩ (.slice none 0 0)).setCell ⟨w.heap.size, 8, none⟩ (.bool false)) = W4 := ⟨_, rfl⟩
  rw [hW4] at hR4 hZ4 hB4 ⊢
  clear hW4 c0 c1 c2 c3 c7 c8 c31 c32 f1 f2 f3 f7 f8 f31 f32 HR HZ hB hs
  replace hR4 : Row oV W4 w.heap.size 45 (stZ 3).cs := hR4
  obtain ⟨C2, HC2⟩ : ∃ C2, Hid (C2 = ((stZ 3).cs.map oV).toArray) := ⟨_, Lib.hid rfl⟩
  go_wp2_with (first
    | ((with_reducible refine load_agg (f := oV) (l := (stZ 3).cs) (aggSt _) (.tmp 1) ?_ ?_ w.heap.size 0 ?_ hR4.at HC2.out ?_); rfl; rfl; rfl)
    | ((with_reducible refine store_agg (f := oV) (l := stC 0 0 ⟨#[]⟩ 0 0) (l' := (stZ 3).cs) (t := 45) (C := C2) (aggSt _) (.tmp 2) (.tmp 96) ?_ ?_ (w.heap.size + 1) ?_ ?_ ?_ hZ4 ?_ oV_one ?_); rfl; rfl; rfl; exact HC2.out; rfl; rfl; (intro W5 hs5 hG5 hz5)))
  refine bodyPost_ret (results_agg (f := oV) (l := (stZ 3).cs) rfl _ (aggSt _) (w.heap.size + 1) 0 rfl hs5.at) rfl ?_
  exact ⟨_, rfl, Lib.hid rfl, hB4.grown hG5 (Nat.le_of_lt hR4.lt) (fun k e => by cases e; omega)⟩
end Go.Proofs.YtllomcmhkocdfaaGreatDoor

/- dialect.rest at operations, trims, numbers, matches. -/
namespace Go.Proofs.YtllomcmhkocdfaaGreatDoor
open Go.RowKit Mem
set_option maxRecDepth 100000

set_option maxHeartbeats 8000000 in
theorem dRest_7 (w : World) (x : Int) (y : Int) (k0 : Int) (k1 : Int) (k2 : Int) (k3 : Int) (C : Array Value) (HC : Hid (C = ((stTrim x y k0 k1 k2 k3).cs.map oV).toArray)) :
    Calls Tryz.prog 133 #[.agg C] w fun e w' => ∃ C', e = .returned (.agg C') ∧ Hid (C' = ((stZ 7).cs.map oV).toArray) ∧ Below w.heap.size w w' := by
  go_enter Tryz.func133, Tryz.ntmps133
  go_upto_region 1 with (fail)
  obtain ⟨W, hW, hR, hZ, hB, hs⟩ : ∃ W, (w.alloc (.cells C 45)).alloc (.cells zStmtC 45) = W ∧ Row oV W w.heap.size 45 (stTrim x y k0 k1 k2 k3).cs ∧ Row oV W (w.heap.size + 1) 45 (stC 0 0 ⟨#[]⟩ 0 0) ∧ Below w.heap.size w W ∧ w.heap.size + 2 ≤ W.heap.size := by
    refine ⟨_, rfl, Row.alloc (Row.new w _ (by rw [HC.out])) _, heap_new' _ _ _ (by simp), ((Below.refl _ _).alloc (Nat.le_refl _) _).alloc (by simp) _, by simp⟩
  rw [hW]
  clear hW
  have c0 : W.cell? ⟨w.heap.size, 0, none⟩ = some (.int .i64 7) := by rw [hR.cell?]; rfl
  have c1 : W.cell? ⟨w.heap.size, 1, none⟩ = some (.int .i64 x) := by rw [hR.cell?]; rfl
  have c2 : W.cell? ⟨w.heap.size, 2, none⟩ = some (.int .i64 y) := by rw [hR.cell?]; rfl
  have c12 : W.cell? ⟨w.heap.size, 12, none⟩ = some (.int .u64 k0) := by rw [hR.cell?]; rfl
  have c13 : W.cell? ⟨w.heap.size, 13, none⟩ = some (.int .u64 k1) := by rw [hR.cell?]; rfl
  have c14 : W.cell? ⟨w.heap.size, 14, none⟩ = some (.int .u64 k2) := by rw [hR.cell?]; rfl
  have c15 : W.cell? ⟨w.heap.size, 15, none⟩ = some (.int .u64 k3) := by rw [hR.cell?]; rfl
  have c31 : W.cell? ⟨w.heap.size, 31, none⟩ = some (.int .i64 (-1)) := by rw [hR.cell?]; rfl
  have c32 : W.cell? ⟨w.heap.size, 32, none⟩ = some (.int .i64 (-1)) := by rw [hR.cell?]; rfl
  have f1 := hR.frozen 1
  have f2 := hR.frozen 2
  have f12 := hR.frozen 12
  have f13 := hR.frozen 13
  have f14 := hR.frozen 14
  have f15 := hR.frozen 15
  have f31 := hR.frozen 31
  have f32 := hR.frozen 32
  have HR := Lib.hid hR
  have HZ := Lib.hid hZ
  clear hR hZ
  go_wp2_with fail
  refine (dHasElse_7 W).mono ?_
  rintro e0 W ⟨rfl, rfl⟩
  go_upto_region 42 with (fail)
  have hR4 := ((((((((HR.out.set 31 (oi (-1))).set 32 (oi (-1))).set 1 (oi 0)).set 2 (oi 0)).set 12 (ow 0)).set 13 (ow 0)).set 14 (ow 0)).set 15 (ow 0))
  have hZ4 := ((((((((HZ.out.set_other (b' := w.heap.size) (by omega) 31 (oV (oi (-1)))).set_other (b' := w.heap.size) (by omega) 32 (oV (oi (-1)))).set_other (b' := w.heap.size) (by omega) 1 (oV (oi 0))).set_other (b' := w.heap.size) (by omega) 2 (oV (oi 0))).set_other (b' := w.heap.size) (by omega) 12 (oV (ow 0))).set_other (b' := w.heap.size) (by omega) 13 (oV (ow 0))).set_other (b' := w.heap.size) (by omega) 14 (oV (ow 0))).set_other (b' := w.heap.size) (by omega) 15 (oV (ow 0)))
  have hB4 := (below_set (below_set (below_set (below_set (below_set (below_set (below_set (below_set hB (b := w.heap.size) 31 (Nat.le_refl _) (oV (oi (-1)))) (b := w.heap.size) 32 (Nat.le_refl _) (oV (oi (-1)))) (b := w.heap.size) 1 (Nat.le_refl _) (oV (oi 0))) (b := w.heap.size) 2 (Nat.le_refl _) (oV (oi 0))) (b := w.heap.size) 12 (Nat.le_refl _) (oV (ow 0))) (b := w.heap.size) 13 (Nat.le_refl _) (oV (ow 0))) (b := w.heap.size) 14 (Nat.le_refl _) (oV (ow 0))) (b := w.heap.size) 15 (Nat.le_refl _) (oV (ow 0)))
  simp only [oV, oi, os, ob, ow, Sl.oc] at hR4 hZ4 hB4
  obtain ⟨W4, hW4⟩ : ∃ W4, ((((((((W.setCell ⟨w.heap.size, 31, none⟩ (.int .i64 (-1))).setCell ⟨w.heap.size, 32, none⟩ (.int .i64 (-1))).setCell ⟨w.heap.size, 1, none⟩ (.int .i64 0)).setCell ⟨w.heap.size, 2, none⟩ (.int .i64 0)).setCell ⟨w.heap.size, 12, none⟩ (.int .u64 0)).setCell ⟨w.heap.size, 13, none⟩ (.int .u64 0)).setCell ⟨w.heap.size, 14, none⟩ (.int .u64 0)).setCell ⟨w.heap.size, 15, none⟩ (.int .u64 0)) = W4 := ⟨_, rfl⟩
  rw [hW4] at hR4 hZ4 hB4 ⊢
  clear hW4 c0 c1 c2 c12 c13 c14 c15 c31 c32 f1 f2 f12 f13 f14 f15 f31 f32 HR HZ hB hs
  replace hR4 : Row oV W4 w.heap.size 45 (stZ 7).cs := hR4
  obtain ⟨C2, HC2⟩ : ∃ C2, Hid (C2 = ((stZ 7).cs.map oV).toArray) := ⟨_, Lib.hid rfl⟩
  go_wp2_with (first
    | ((with_reducible refine load_agg (f := oV) (l := (stZ 7).cs) (aggSt _) (.tmp 1) ?_ ?_ w.heap.size 0 ?_ hR4.at HC2.out ?_); rfl; rfl; rfl)
    | ((with_reducible refine store_agg (f := oV) (l := stC 0 0 ⟨#[]⟩ 0 0) (l' := (stZ 7).cs) (t := 45) (C := C2) (aggSt _) (.tmp 2) (.tmp 96) ?_ ?_ (w.heap.size + 1) ?_ ?_ ?_ hZ4 ?_ oV_one ?_); rfl; rfl; rfl; exact HC2.out; rfl; rfl; (intro W5 hs5 hG5 hz5)))
  refine bodyPost_ret (results_agg (f := oV) (l := (stZ 7).cs) rfl _ (aggSt _) (w.heap.size + 1) 0 rfl hs5.at) rfl ?_
  exact ⟨_, rfl, Lib.hid rfl, hB4.grown hG5 (Nat.le_of_lt hR4.lt) (fun k e => by cases e; omega)⟩
end Go.Proofs.YtllomcmhkocdfaaGreatDoor

/- dialect.rest at tests, loops, breaks, fields, ends. -/
namespace Go.Proofs.YtllomcmhkocdfaaGreatDoor
open Go.RowKit Mem
set_option maxRecDepth 100000

set_option maxHeartbeats 8000000 in
theorem dRest_11 (w : World) (i : Int) (j : Int) (thn : Int) (C : Array Value) (HC : Hid (C = ((stLoop i j thn).cs.map oV).toArray)) :
    Calls Tryz.prog 133 #[.agg C] w fun e w' => ∃ C', e = .returned (.agg C') ∧ Hid (C' = ((stZ 11).cs.map oV).toArray) ∧ Below w.heap.size w w' := by
  go_enter Tryz.func133, Tryz.ntmps133
  go_upto_region 1 with (fail)
  obtain ⟨W, hW, hR, hZ, hB, hs⟩ : ∃ W, (w.alloc (.cells C 45)).alloc (.cells zStmtC 45) = W ∧ Row oV W w.heap.size 45 (stLoop i j thn).cs ∧ Row oV W (w.heap.size + 1) 45 (stC 0 0 ⟨#[]⟩ 0 0) ∧ Below w.heap.size w W ∧ w.heap.size + 2 ≤ W.heap.size := by
    refine ⟨_, rfl, Row.alloc (Row.new w _ (by rw [HC.out])) _, heap_new' _ _ _ (by simp), ((Below.refl _ _).alloc (Nat.le_refl _) _).alloc (by simp) _, by simp⟩
  rw [hW]
  clear hW
  have c0 : W.cell? ⟨w.heap.size, 0, none⟩ = some (.int .i64 11) := by rw [hR.cell?]; rfl
  have c5 : W.cell? ⟨w.heap.size, 5, none⟩ = some (.int .i64 i) := by rw [hR.cell?]; rfl
  have c6 : W.cell? ⟨w.heap.size, 6, none⟩ = some (.int .i64 j) := by rw [hR.cell?]; rfl
  have c31 : W.cell? ⟨w.heap.size, 31, none⟩ = some (.int .i64 thn) := by rw [hR.cell?]; rfl
  have c32 : W.cell? ⟨w.heap.size, 32, none⟩ = some (.int .i64 (-1)) := by rw [hR.cell?]; rfl
  have f5 := hR.frozen 5
  have f6 := hR.frozen 6
  have f31 := hR.frozen 31
  have f32 := hR.frozen 32
  have HR := Lib.hid hR
  have HZ := Lib.hid hZ
  clear hR hZ
  go_wp2_with fail
  refine (dHasElse_11 W).mono ?_
  rintro e0 W ⟨rfl, rfl⟩
  go_upto_region 42 with (fail)
  have hR4 := ((((HR.out.set 31 (oi (-1))).set 32 (oi (-1))).set 5 (oi 0)).set 6 (oi 0))
  have hZ4 := ((((HZ.out.set_other (b' := w.heap.size) (by omega) 31 (oV (oi (-1)))).set_other (b' := w.heap.size) (by omega) 32 (oV (oi (-1)))).set_other (b' := w.heap.size) (by omega) 5 (oV (oi 0))).set_other (b' := w.heap.size) (by omega) 6 (oV (oi 0)))
  have hB4 := (below_set (below_set (below_set (below_set hB (b := w.heap.size) 31 (Nat.le_refl _) (oV (oi (-1)))) (b := w.heap.size) 32 (Nat.le_refl _) (oV (oi (-1)))) (b := w.heap.size) 5 (Nat.le_refl _) (oV (oi 0))) (b := w.heap.size) 6 (Nat.le_refl _) (oV (oi 0)))
  simp only [oV, oi, os, ob, ow, Sl.oc] at hR4 hZ4 hB4
  obtain ⟨W4, hW4⟩ : ∃ W4, ((((W.setCell ⟨w.heap.size, 31, none⟩ (.int .i64 (-1))).setCell ⟨w.heap.size, 32, none⟩ (.int .i64 (-1))).setCell ⟨w.heap.size, 5, none⟩ (.int .i64 0)).setCell ⟨w.heap.size, 6, none⟩ (.int .i64 0)) = W4 := ⟨_, rfl⟩
  rw [hW4] at hR4 hZ4 hB4 ⊢
  clear hW4 c0 c5 c6 c31 c32 f5 f6 f31 f32 HR HZ hB hs
  replace hR4 : Row oV W4 w.heap.size 45 (stZ 11).cs := hR4
  obtain ⟨C2, HC2⟩ : ∃ C2, Hid (C2 = ((stZ 11).cs.map oV).toArray) := ⟨_, Lib.hid rfl⟩
  go_wp2_with (first
    | ((with_reducible refine load_agg (f := oV) (l := (stZ 11).cs) (aggSt _) (.tmp 1) ?_ ?_ w.heap.size 0 ?_ hR4.at HC2.out ?_); rfl; rfl; rfl)
    | ((with_reducible refine store_agg (f := oV) (l := stC 0 0 ⟨#[]⟩ 0 0) (l' := (stZ 11).cs) (t := 45) (C := C2) (aggSt _) (.tmp 2) (.tmp 96) ?_ ?_ (w.heap.size + 1) ?_ ?_ ?_ hZ4 ?_ oV_one ?_); rfl; rfl; rfl; exact HC2.out; rfl; rfl; (intro W5 hs5 hG5 hz5)))
  refine bodyPost_ret (results_agg (f := oV) (l := (stZ 11).cs) rfl _ (aggSt _) (w.heap.size + 1) 0 rfl hs5.at) rfl ?_
  exact ⟨_, rfl, Lib.hid rfl, hB4.grown hG5 (Nat.le_of_lt hR4.lt) (fun k e => by cases e; omega)⟩
set_option maxHeartbeats 8000000 in
theorem dRest_12 (w : World) (C : Array Value) (HC : Hid (C = (stBreak.cs.map oV).toArray)) :
    Calls Tryz.prog 133 #[.agg C] w fun e w' => ∃ C', e = .returned (.agg C') ∧ Hid (C' = ((stZ 12).cs.map oV).toArray) ∧ Below w.heap.size w w' := by
  go_enter Tryz.func133, Tryz.ntmps133
  go_upto_region 1 with (fail)
  obtain ⟨W, hW, hR, hZ, hB, hs⟩ : ∃ W, (w.alloc (.cells C 45)).alloc (.cells zStmtC 45) = W ∧ Row oV W w.heap.size 45 stBreak.cs ∧ Row oV W (w.heap.size + 1) 45 (stC 0 0 ⟨#[]⟩ 0 0) ∧ Below w.heap.size w W ∧ w.heap.size + 2 ≤ W.heap.size := by
    refine ⟨_, rfl, Row.alloc (Row.new w _ (by rw [HC.out])) _, heap_new' _ _ _ (by simp), ((Below.refl _ _).alloc (Nat.le_refl _) _).alloc (by simp) _, by simp⟩
  rw [hW]
  clear hW
  have c0 : W.cell? ⟨w.heap.size, 0, none⟩ = some (.int .i64 12) := by rw [hR.cell?]; rfl
  have c31 : W.cell? ⟨w.heap.size, 31, none⟩ = some (.int .i64 (-1)) := by rw [hR.cell?]; rfl
  have c32 : W.cell? ⟨w.heap.size, 32, none⟩ = some (.int .i64 (-1)) := by rw [hR.cell?]; rfl
  have f31 := hR.frozen 31
  have f32 := hR.frozen 32
  have HR := Lib.hid hR
  have HZ := Lib.hid hZ
  clear hR hZ
  go_wp2_with fail
  refine (dHasElse_12 W).mono ?_
  rintro e0 W ⟨rfl, rfl⟩
  go_upto_region 42 with (fail)
  have hR4 := ((HR.out.set 31 (oi (-1))).set 32 (oi (-1)))
  have hZ4 := ((HZ.out.set_other (b' := w.heap.size) (by omega) 31 (oV (oi (-1)))).set_other (b' := w.heap.size) (by omega) 32 (oV (oi (-1))))
  have hB4 := (below_set (below_set hB (b := w.heap.size) 31 (Nat.le_refl _) (oV (oi (-1)))) (b := w.heap.size) 32 (Nat.le_refl _) (oV (oi (-1))))
  simp only [oV, oi, os, ob, ow, Sl.oc] at hR4 hZ4 hB4
  obtain ⟨W4, hW4⟩ : ∃ W4, ((W.setCell ⟨w.heap.size, 31, none⟩ (.int .i64 (-1))).setCell ⟨w.heap.size, 32, none⟩ (.int .i64 (-1))) = W4 := ⟨_, rfl⟩
  rw [hW4] at hR4 hZ4 hB4 ⊢
  clear hW4 c0 c31 c32 f31 f32 HR HZ hB hs
  replace hR4 : Row oV W4 w.heap.size 45 (stZ 12).cs := hR4
  obtain ⟨C2, HC2⟩ : ∃ C2, Hid (C2 = ((stZ 12).cs.map oV).toArray) := ⟨_, Lib.hid rfl⟩
  go_wp2_with (first
    | ((with_reducible refine load_agg (f := oV) (l := (stZ 12).cs) (aggSt _) (.tmp 1) ?_ ?_ w.heap.size 0 ?_ hR4.at HC2.out ?_); rfl; rfl; rfl)
    | ((with_reducible refine store_agg (f := oV) (l := stC 0 0 ⟨#[]⟩ 0 0) (l' := (stZ 12).cs) (t := 45) (C := C2) (aggSt _) (.tmp 2) (.tmp 96) ?_ ?_ (w.heap.size + 1) ?_ ?_ ?_ hZ4 ?_ oV_one ?_); rfl; rfl; rfl; exact HC2.out; rfl; rfl; (intro W5 hs5 hG5 hz5)))
  refine bodyPost_ret (results_agg (f := oV) (l := (stZ 12).cs) rfl _ (aggSt _) (w.heap.size + 1) 0 rfl hs5.at) rfl ?_
  exact ⟨_, rfl, Lib.hid rfl, hB4.grown hG5 (Nat.le_of_lt hR4.lt) (fun k e => by cases e; omega)⟩
set_option maxHeartbeats 8000000 in
theorem dRest_13 (w : World) (x : Int) (nm : ByteArray) (C : Array Value) (HC : Hid (C = ((stField x nm).cs.map oV).toArray)) :
    Calls Tryz.prog 133 #[.agg C] w fun e w' => ∃ C', e = .returned (.agg C') ∧ Hid (C' = ((stZ 13).cs.map oV).toArray) ∧ Below w.heap.size w w' := by
  go_enter Tryz.func133, Tryz.ntmps133
  go_upto_region 1 with (fail)
  obtain ⟨W, hW, hR, hZ, hB, hs⟩ : ∃ W, (w.alloc (.cells C 45)).alloc (.cells zStmtC 45) = W ∧ Row oV W w.heap.size 45 (stField x nm).cs ∧ Row oV W (w.heap.size + 1) 45 (stC 0 0 ⟨#[]⟩ 0 0) ∧ Below w.heap.size w W ∧ w.heap.size + 2 ≤ W.heap.size := by
    refine ⟨_, rfl, Row.alloc (Row.new w _ (by rw [HC.out])) _, heap_new' _ _ _ (by simp), ((Below.refl _ _).alloc (Nat.le_refl _) _).alloc (by simp) _, by simp⟩
  rw [hW]
  clear hW
  have c0 : W.cell? ⟨w.heap.size, 0, none⟩ = some (.int .i64 13) := by rw [hR.cell?]; rfl
  have c1 : W.cell? ⟨w.heap.size, 1, none⟩ = some (.int .i64 x) := by rw [hR.cell?]; rfl
  have c30 : W.cell? ⟨w.heap.size, 30, none⟩ = some (.string nm) := by rw [hR.cell?]; rfl
  have c31 : W.cell? ⟨w.heap.size, 31, none⟩ = some (.int .i64 (-1)) := by rw [hR.cell?]; rfl
  have c32 : W.cell? ⟨w.heap.size, 32, none⟩ = some (.int .i64 (-1)) := by rw [hR.cell?]; rfl
  have f1 := hR.frozen 1
  have f30 := hR.frozen 30
  have f31 := hR.frozen 31
  have f32 := hR.frozen 32
  have HR := Lib.hid hR
  have HZ := Lib.hid hZ
  clear hR hZ
  go_wp2_with fail
  refine (dHasElse_13 W).mono ?_
  rintro e0 W ⟨rfl, rfl⟩
  go_upto_region 42 with (fail)
  have hR4 := ((((HR.out.set 31 (oi (-1))).set 32 (oi (-1))).set 1 (oi 0)).set 30 (os ⟨#[]⟩))
  have hZ4 := ((((HZ.out.set_other (b' := w.heap.size) (by omega) 31 (oV (oi (-1)))).set_other (b' := w.heap.size) (by omega) 32 (oV (oi (-1)))).set_other (b' := w.heap.size) (by omega) 1 (oV (oi 0))).set_other (b' := w.heap.size) (by omega) 30 (oV (os ⟨#[]⟩)))
  have hB4 := (below_set (below_set (below_set (below_set hB (b := w.heap.size) 31 (Nat.le_refl _) (oV (oi (-1)))) (b := w.heap.size) 32 (Nat.le_refl _) (oV (oi (-1)))) (b := w.heap.size) 1 (Nat.le_refl _) (oV (oi 0))) (b := w.heap.size) 30 (Nat.le_refl _) (oV (os ⟨#[]⟩)))
  simp only [oV, oi, os, ob, ow, Sl.oc] at hR4 hZ4 hB4
  obtain ⟨W4, hW4⟩ : ∃ W4, ((((W.setCell ⟨w.heap.size, 31, none⟩ (.int .i64 (-1))).setCell ⟨w.heap.size, 32, none⟩ (.int .i64 (-1))).setCell ⟨w.heap.size, 1, none⟩ (.int .i64 0)).setCell ⟨w.heap.size, 30, none⟩ (.string ⟨#[]⟩)) = W4 := ⟨_, rfl⟩
  rw [hW4] at hR4 hZ4 hB4 ⊢
  clear hW4 c0 c1 c30 c31 c32 f1 f30 f31 f32 HR HZ hB hs
  replace hR4 : Row oV W4 w.heap.size 45 (stZ 13).cs := hR4
  obtain ⟨C2, HC2⟩ : ∃ C2, Hid (C2 = ((stZ 13).cs.map oV).toArray) := ⟨_, Lib.hid rfl⟩
  go_wp2_with (first
    | ((with_reducible refine load_agg (f := oV) (l := (stZ 13).cs) (aggSt _) (.tmp 1) ?_ ?_ w.heap.size 0 ?_ hR4.at HC2.out ?_); rfl; rfl; rfl)
    | ((with_reducible refine store_agg (f := oV) (l := stC 0 0 ⟨#[]⟩ 0 0) (l' := (stZ 13).cs) (t := 45) (C := C2) (aggSt _) (.tmp 2) (.tmp 96) ?_ ?_ (w.heap.size + 1) ?_ ?_ ?_ hZ4 ?_ oV_one ?_); rfl; rfl; rfl; exact HC2.out; rfl; rfl; (intro W5 hs5 hG5 hz5)))
  refine bodyPost_ret (results_agg (f := oV) (l := (stZ 13).cs) rfl _ (aggSt _) (w.heap.size + 1) 0 rfl hs5.at) rfl ?_
  exact ⟨_, rfl, Lib.hid rfl, hB4.grown hG5 (Nat.le_of_lt hR4.lt) (fun k e => by cases e; omega)⟩
set_option maxHeartbeats 8000000 in
theorem dRest_14 (w : World) (i : Int) (C : Array Value) (HC : Hid (C = ((stReject i).cs.map oV).toArray)) :
    Calls Tryz.prog 133 #[.agg C] w fun e w' => ∃ C', e = .returned (.agg C') ∧ Hid (C' = ((stZ 14).cs.map oV).toArray) ∧ Below w.heap.size w w' := by
  go_enter Tryz.func133, Tryz.ntmps133
  go_upto_region 1 with (fail)
  obtain ⟨W, hW, hR, hZ, hB, hs⟩ : ∃ W, (w.alloc (.cells C 45)).alloc (.cells zStmtC 45) = W ∧ Row oV W w.heap.size 45 (stReject i).cs ∧ Row oV W (w.heap.size + 1) 45 (stC 0 0 ⟨#[]⟩ 0 0) ∧ Below w.heap.size w W ∧ w.heap.size + 2 ≤ W.heap.size := by
    refine ⟨_, rfl, Row.alloc (Row.new w _ (by rw [HC.out])) _, heap_new' _ _ _ (by simp), ((Below.refl _ _).alloc (Nat.le_refl _) _).alloc (by simp) _, by simp⟩
  rw [hW]
  clear hW
  have c0 : W.cell? ⟨w.heap.size, 0, none⟩ = some (.int .i64 14) := by rw [hR.cell?]; rfl
  have c5 : W.cell? ⟨w.heap.size, 5, none⟩ = some (.int .i64 i) := by rw [hR.cell?]; rfl
  have c31 : W.cell? ⟨w.heap.size, 31, none⟩ = some (.int .i64 (-1)) := by rw [hR.cell?]; rfl
  have c32 : W.cell? ⟨w.heap.size, 32, none⟩ = some (.int .i64 (-1)) := by rw [hR.cell?]; rfl
  have f5 := hR.frozen 5
  have f31 := hR.frozen 31
  have f32 := hR.frozen 32
  have HR := Lib.hid hR
  have HZ := Lib.hid hZ
  clear hR hZ
  go_wp2_with fail
  refine (dHasElse_14 W).mono ?_
  rintro e0 W ⟨rfl, rfl⟩
  go_upto_region 42 with (fail)
  have hR4 := (((HR.out.set 31 (oi (-1))).set 32 (oi (-1))).set 5 (oi 0))
  have hZ4 := (((HZ.out.set_other (b' := w.heap.size) (by omega) 31 (oV (oi (-1)))).set_other (b' := w.heap.size) (by omega) 32 (oV (oi (-1)))).set_other (b' := w.heap.size) (by omega) 5 (oV (oi 0)))
  have hB4 := (below_set (below_set (below_set hB (b := w.heap.size) 31 (Nat.le_refl _) (oV (oi (-1)))) (b := w.heap.size) 32 (Nat.le_refl _) (oV (oi (-1)))) (b := w.heap.size) 5 (Nat.le_refl _) (oV (oi 0)))
  simp only [oV, oi, os, ob, ow, Sl.oc] at hR4 hZ4 hB4
  obtain ⟨W4, hW4⟩ : ∃ W4, (((W.setCell ⟨w.heap.size, 31, none⟩ (.int .i64 (-1))).setCell ⟨w.heap.size, 32, none⟩ (.int .i64 (-1))).setCell ⟨w.heap.size, 5, none⟩ (.int .i64 0)) = W4 := ⟨_, rfl⟩
  rw [hW4] at hR4 hZ4 hB4 ⊢
  clear hW4 c0 c5 c31 c32 f5 f31 f32 HR HZ hB hs
  replace hR4 : Row oV W4 w.heap.size 45 (stZ 14).cs := hR4
  obtain ⟨C2, HC2⟩ : ∃ C2, Hid (C2 = ((stZ 14).cs.map oV).toArray) := ⟨_, Lib.hid rfl⟩
  go_wp2_with (first
    | ((with_reducible refine load_agg (f := oV) (l := (stZ 14).cs) (aggSt _) (.tmp 1) ?_ ?_ w.heap.size 0 ?_ hR4.at HC2.out ?_); rfl; rfl; rfl)
    | ((with_reducible refine store_agg (f := oV) (l := stC 0 0 ⟨#[]⟩ 0 0) (l' := (stZ 14).cs) (t := 45) (C := C2) (aggSt _) (.tmp 2) (.tmp 96) ?_ ?_ (w.heap.size + 1) ?_ ?_ ?_ hZ4 ?_ oV_one ?_); rfl; rfl; rfl; exact HC2.out; rfl; rfl; (intro W5 hs5 hG5 hz5)))
  refine bodyPost_ret (results_agg (f := oV) (l := (stZ 14).cs) rfl _ (aggSt _) (w.heap.size + 1) 0 rfl hs5.at) rfl ?_
  exact ⟨_, rfl, Lib.hid rfl, hB4.grown hG5 (Nat.le_of_lt hR4.lt) (fun k e => by cases e; omega)⟩
end Go.Proofs.YtllomcmhkocdfaaGreatDoor

/- slices.Contains at ints; dialect.targets. -/
namespace Go.Proofs.YtllomcmhkocdfaaGreatDoor
open Go.RowKit Mem
set_option maxRecDepth 100000

theorem getD_notin (zs : List Int) (x : Int) (k : Nat) (hk : k < zs.length) (hx : x ∉ zs) : ¬ x = zs.getD k 0 := by
  intro h
  apply hx
  rw [h, List.getD_eq_getElem?_getD, List.getElem?_eq_getElem hk]
  exact List.getElem_mem _

theorem idxInt (w : World) (b o n c : Nat) (zs : List Int) (hn : n = zs.length) (hl : zs.length ≤ 4096) (ha : At iV w b o zs) (x : Int) (hx : x ∉ zs) :
    Calls Tryz.prog 149 #[.slice (some ⟨b, o, none⟩) n c, .int .i64 x] w fun e w' => e = .returned (.int .i64 (-1)) ∧ w' = w := by
  subst hn
  have HA := Lib.hid ha
  clear ha
  go_enter Tryz.func149, Tryz.ntmps149
  go_wp2_with fail
  go_loop [8] (fun i => ∃ k : Nat, k ≤ zs.length ∧ i = .int .i64 k) (fun i => zs.length - (intOf i).toNat)
  case atStart => exact ⟨0, by omega, rfl⟩
  case round =>
    obtain ⟨k, hk, rfl⟩ := hrel
    by_cases hlt : k < zs.length
    · have hq : (k : Int) < (zs.length : Int) := by omega
      have hc : w.cell? ⟨b, o + k, none⟩ = some (.int .i64 (zs.getD k 0)) := by rw [HA.out.cell 0 k hlt, List.getD_eq_getElem?_getD]; rfl
      have hne := getD_notin zs x k hlt hx
      generalize zs.getD k 0 = y at hc hne
      have hb : (x == y) = false := by simpa using hne
      clear hx
      go_wp2_with fail
      go_round
      case rel => exact ⟨k + 1, by omega, by go_num⟩
      case measure => simp [intOf]; omega
    · obtain rfl : k = zs.length := by omega
      go_wp2
      go_ret
      exact ⟨rfl, rfl⟩

theorem containsInt (w : World) (b o n c : Nat) (zs : List Int) (hn : n = zs.length) (hl : zs.length ≤ 4096) (ha : At iV w b o zs) (x : Int) (hx : x ∉ zs) :
    Calls Tryz.prog 134 #[.slice (some ⟨b, o, none⟩) n c, .int .i64 x] w fun e w' => e = .returned (.bool false) ∧ w' = w := by
  have HA := Lib.hid ha
  have HN := Lib.hid hn
  have HXX := Lib.hid hx
  clear ha hn hx
  go_enter Tryz.func134, Tryz.ntmps134
  go_wp2_with fail
  refine (idxInt w b o n c zs HN.out hl HA.out x HXX.out).mono ?_
  rintro e w ⟨rfl, rfl⟩
  go_wp2
  go_ret
  exact ⟨rfl, rfl⟩

theorem take_notin (l : List Int) (hd : l.Nodup) (k : Nat) (hk : k < l.length) : l.getD k 0 ∉ l.take k := by
  rw [List.getD_eq_getElem?_getD, List.getElem?_eq_getElem hk]
  intro h
  obtain ⟨j, hj, e⟩ := List.getElem_of_mem h
  rw [List.getElem_take] at e
  have hj' : j < k := by rw [List.length_take] at hj; omega
  exact absurd ((List.getElem_inj hd).1 e) (by omega)
theorem Mem.At.take {α : Type} {f : α → Value} {w : World} {b o : Nat} {l : List α} (h : At f w b o l) (k : Nat) : At f w b o (l.take k) := fun i hi => by
  rw [List.length_take] at hi
  rw [h i (by omega), List.getElem?_take_of_lt (by omega)]

set_option maxHeartbeats 4000000 in
theorem dTargets (w : World) (v : Value) (l : List Int) (hv : Rd iV w v l) (hl : l.length ≤ 64) (hr : ∀ x ∈ l, 1 ≤ x ∧ x ≤ 11) (hd : l.Nodup) :
    Calls Tryz.prog 100 #[v] w fun e w' => e = .returned (.bool true) ∧ w' = w := by
  rcases hv with ⟨p, rfl, rfl⟩ | ⟨b, o, c, rfl, hc, ha, hlt⟩
  · go_enter Tryz.func100, Tryz.ntmps100
    go_wp2_with fail
    refine wp_loop_rounds 1 ?_
    refine (show Code.wp _ _ _ _ _ from ?_)
    go_wp2
    go_ret
    exact ⟨rfl, rfl⟩
  · have HA := Lib.hid (And.intro ha (And.intro hr hd))
    clear ha hr hd
    go_enter Tryz.func100, Tryz.ntmps100
    go_wp2_with fail
    go_loop [7] (fun i => ∃ k : Nat, k ≤ l.length ∧ i = .int .i64 k) (fun i => l.length - (intOf i).toNat)
    case atStart => exact ⟨0, by omega, rfl⟩
    case round =>
      obtain ⟨k, hk, rfl⟩ := hrel
      by_cases hlt : k < l.length
      · have hq : (k : Int) < (l.length : Int) := by omega
        have hcl : w.cell? ⟨b, o + k, none⟩ = some (.int .i64 (l.getD k 0)) := by rw [HA.out.1.cell 0 k hlt, List.getD_eq_getElem?_getD]; rfl
        have HX := Lib.hid (take_notin l HA.out.2.2 k hlt)
        have hm := HA.out.2.1 (l.getD k 0) (by rw [List.getD_eq_getElem?_getD, List.getElem?_eq_getElem hlt]; exact List.getElem_mem _)
        generalize l.getD k 0 = y at hcl HX hm
        have HM := Lib.hid hm
        clear hm
        go_wp2_with fail
        refine (dIn w y 1 11).mono ?_
        rintro e w ⟨rfl, rfl⟩
        rw [show (decide (1 ≤ y) && decide (y ≤ 11)) = true by simp; exact HM.out]
        go_wp2_with fail
        refine (containsInt w b o _ _ (l.take k) (by simp; omega) (by simp; omega) (HA.out.1.take k) y HX.out).mono ?_
        rintro e w ⟨rfl, rfl⟩
        go_wp2_with fail
        go_round
        case rel => exact ⟨k + 1, by omega, by go_num⟩
        case measure => simp [intOf]; omega
      · obtain rfl : k = l.length := by omega
        go_wp2
        go_ret
        exact ⟨rfl, rfl⟩
end Go.Proofs.YtllomcmhkocdfaaGreatDoor
