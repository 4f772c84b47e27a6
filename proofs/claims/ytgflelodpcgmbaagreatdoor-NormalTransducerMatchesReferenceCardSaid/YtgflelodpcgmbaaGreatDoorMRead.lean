/- interp's read of a message by a program of one statement that appends a field. -/
import Derived.Test.YtgflelodpcgmbaaGreatDoorMRun
import Derived.Deep.DeepCutAuto
import Derived.RegionTactic
namespace Go.Proofs.YtgflelodpcgmbaaGreatDoor
open Go.RowKit Mem
set_option maxRecDepth 100000

theorem Mem.results_agg3 {α : Type} {f : α → Value} {w : World} {l : List α} {P : Program} {fn : Func} {p t s : Tmp} {ty : TypeId} (h : fn.results = #[.tmp s, .cell p ty, .tmp t]) (tmps : Array Value) (T : AggT P ty l.length) (b off : Nat) (hp : tmps.getD p undef = .pointer (some ⟨b, off, none⟩)) (hat : At f w b off l) :
    (results fn tmps).run P w = .ok (.tuple #[tmps.getD s undef, .agg (l.map f).toArray, tmps.getD t undef]) w := by
  have hp' : tmps[p]?.getD undef = .pointer (some ⟨b, off, none⟩) := by simpa using hp
  simp [results, h, hp', asAddr, run_load_agg T hat]

set_option maxHeartbeats 8000000 in
theorem iRead1 (w : World) (v : Value) (nm : ByteArray) (m : List UInt8) (u : Value) (HN : Hid (NameOK nm)) (hp : FP w v nm) (hu : Rd u8V w u m) (hm : m.length ≤ 4096) :
    Calls Tryz.prog 106 #[v, u] w fun e w' => ∃ xb sb so sc bb bo bc mb nv av, e = .returned (.tuple #[.pointer (some ⟨xb, 0, none⟩), .agg #[.bool true, .int .i64 0], .int .i64 0]) ∧ Below w.heap.size w w' ∧ ExecOut w' nm m xb sb so sc bb bo bc mb nv av := by
  have HP := Lib.hid hp
  have HU := Lib.hid hu
  obtain ⟨sb, so, sc, bb, bo, bc, ib, io, ic, rfl, ⟨k1, k2, k3⟩, ⟨h1, l1⟩, ⟨h2, l2⟩, h3, l3⟩ := hp
  obtain ⟨pu, cu, rfl⟩ := hu.slice
  have H1 := Lib.hid (And.intro h1 (And.intro h2 h3))
  clear h1 h2 h3 k2 k3 hu
  go_enter Tryz.func106, Tryz.ntmps106
  go_upto_region 1 with (fail)
  obtain ⟨W, hW, hB, hs, g0, g1⟩ : ∃ W, (w.alloc (.cells #[.slice (some ⟨sb, so, none⟩) 1 sc, .slice (some ⟨bb, bo, none⟩) 1 bc] 63)).alloc (.cells #[.bool false, .int .i64 0] 191) = W ∧ Below w.heap.size w W ∧ w.heap.size + 2 ≤ W.heap.size ∧ W.heap[w.heap.size]? = some (.cells #[.slice (some ⟨sb, so, none⟩) 1 sc, .slice (some ⟨bb, bo, none⟩) 1 bc] 63 (0, 0)) ∧ W.heap[w.heap.size + 1]? = some (.cells #[.bool false, .int .i64 0] 191 (0, 0)) := by
    refine ⟨_, rfl, ((Below.refl _ _).alloc (Nat.le_refl _) _).alloc (by simp) _, by simp, ?_, ?_⟩
    all_goals repeat (first | exact heap_new' _ _ _ (by (try simp) <;> omega) | refine (Below.heap_alloc _ _ _ (by (try simp) <;> omega)).trans ?_)
  rw [hW]
  clear hW
  have HF : Hid (∀ X, Below (w.heap.size + 2) W X → X.cell? ⟨w.heap.size, 0, none⟩ = some (.slice (some ⟨sb, so, none⟩) 1 sc) ∧ X.cell? ⟨w.heap.size, 1, none⟩ = some (.slice (some ⟨bb, bo, none⟩) 1 bc) ∧ Row oV X (w.heap.size + 1) 191 [ob false, oi 0] ∧ FP X (.agg #[.slice (some ⟨sb, so, none⟩) 1 sc, .slice (some ⟨bb, bo, none⟩) 1 bc]) nm ∧ Below w.heap.size w X ∧ w.heap.size + 2 ≤ X.heap.size) := Lib.hid fun X hX => by
    have hX0 : Below w.heap.size w X := hB.trans (hX.mono (Nat.le_add_right _ _))
    refine ⟨?_, ?_, (hX.block (w.heap.size + 1) (Nat.lt_succ_self _)).trans g1, HP.out.below hX0, hX0, Nat.le_trans hs hX.size⟩
    · unfold World.cell?; rw [hX.block w.heap.size (by omega), g0]; rfl
    · unfold World.cell?; rw [hX.block w.heap.size (by omega), g0]; rfl
  have hX : Below (w.heap.size + 2) W W := Below.refl _ _
  clear hB g0 g1 hs
  obtain ⟨p0, p1, _, hp, _, hs⟩ := HF.out W hX
  go_wp2_with fail
  refine (rCheck1 W _ nm HN hp).mono ?_
  rintro e W1 ⟨ca, cb, cc, rfl, hB1⟩
  replace hX := hX.trans (hB1.mono hs)
  clear p0 p1 hp hs hB1
  have hs1 := (HF.out W1 hX).2.2.2.2.2
  have hZ1 : Row oV (W1.alloc (.cells #[.int .i64 0, .int .i64 0, .slice none 0 0] 108)) W1.heap.size 108 [oi 0, oi 0, on] := Row.new _ _ rfl
  have hX1 := hX.alloc hs1 (.cells #[.int .i64 0, .int .i64 0, .slice none 0 0] 108)
  go_upto_region 2 with (first
    | ((with_reducible refine store_agg (f := oV) (l := [oi 0, oi 0, on]) (l' := [ca, cb, cc]) (t := 108) (C := #[oV ca, oV cb, oV cc]) aggInfo (.tmp 7) (.tmp 14) ?_ ?_ W1.heap.size ?_ ?_ ?_ hZ1 ?_ oV_one ?_); rfl; rfl; rfl; rfl; rfl; rfl; intro W2 hs2 hG2 hz2))
  replace hX := hX1.grown hG2 (Nat.le_trans hs1 (by simp)) (fun k e => by cases e; exact hs1)
  clear hX1 hZ1 hG2 hz2 hs2
  have hq : ¬ (4096 < (m.length : Int)) := by omega
  obtain ⟨p0, p1, _, hp, _, hs⟩ := HF.out W2 hX
  go_upto_region 4 with (fail)
  go_cut [9] (fun s9 wx => ∃ (xb mb : Nat) (nv : OC), s9 = .pointer (some ⟨xb, 0, none⟩) ∧ Row oV wx xb 196 (exC sb so sc bb bo bc mb nv on on ⟨.map none, rfl⟩) ∧ Row oV wx mb 29 [on, on, on, on, on, on, on, on, on, on, on, on] ∧ mb ≠ xb ∧ Below (w.heap.size + 2) W wx ∧ w.heap.size + 2 ≤ xb ∧ w.heap.size + 2 ≤ mb)
  case first =>
    have hW2 := hX
    clear p0 p1
    refine wp_region_held_drew (S := fun X => Below W2.heap.size W2 X) rfl (Below.refl _ _).drew fun hS => ?_
    refine takeD (i := 0) (d := 24) (v := .agg #[.slice (some ⟨sb, so, none⟩) 1 sc, .slice (some ⟨bb, bo, none⟩) 1 bc]) rfl rfl (by kernel_rfl) (by kernel_rfl) (by kernel_rfl) (fun c a w h => h) (.inl ⟨by first | rfl | kernel_rfl, fun W' h => by obtain ⟨q0, q1, _⟩ := HF.out W' (hW2.trans (h.mono hs)); go_simp⟩) hS ?_
    simp only [List.setIfInBounds_toArray, List.set_cons_succ, List.set_cons_zero]
    refine wpAnyH_ready (rs := [1, 2]) (by kernel_rfl) (by simp) (AllReadyH.cons rfl (fun K' hK => ?_) (AllReadyH.cons rfl (fun K' hK => ?_) AllReadyH.nil))
    · have hn0 : W2.heap.size ≤ W2.drew.heap.size := Nat.le_refl _
      generalize W2.drew = X0 at hS hn0 ⊢
      have hS1 := hS.alloc hS.size (.cells #[.slice none 0 0, .slice none 0 0, .slice none 0 0, .slice none 0 0, .slice none 0 0, .slice none 0 0, .slice none 0 0, .slice none 0 0, .slice none 0 0, .slice none 0 0, .slice none 0 0, .slice none 0 0] 29)
      have r25 : Row oV (X0.alloc (.cells #[.slice none 0 0, .slice none 0 0, .slice none 0 0, .slice none 0 0, .slice none 0 0, .slice none 0 0, .slice none 0 0, .slice none 0 0, .slice none 0 0, .slice none 0 0, .slice none 0 0, .slice none 0 0] 29)) X0.heap.size 29 [on, on, on, on, on, on, on, on, on, on, on, on] := Row.new _ _ rfl
      refine valueD (d := 25) (v := .slice (some ⟨X0.heap.size, 0, none⟩) 12 12) (w' := X0.alloc (.cells #[.slice none 0 0, .slice none 0 0, .slice none 0 0, .slice none 0 0, .slice none 0 0, .slice none 0 0, .slice none 0 0, .slice none 0 0, .slice none 0 0, .slice none 0 0, .slice none 0 0, .slice none 0 0] 29)) rfl rfl (by first | rfl | kernel_rfl) ?_
      refine hK.out _ _ hS1 fun _ => ?_
      clear hK hS
      simp only [List.setIfInBounds_toArray, List.set_cons_succ, List.set_cons_zero]
      have hl1 : X0.heap.size < (X0.alloc (.cells #[.slice none 0 0, .slice none 0 0, .slice none 0 0, .slice none 0 0, .slice none 0 0, .slice none 0 0, .slice none 0 0, .slice none 0 0, .slice none 0 0, .slice none 0 0, .slice none 0 0, .slice none 0 0] 29)).heap.size := by simp
      generalize (X0.alloc (.cells #[.slice none 0 0, .slice none 0 0, .slice none 0 0, .slice none 0 0, .slice none 0 0, .slice none 0 0, .slice none 0 0, .slice none 0 0, .slice none 0 0, .slice none 0 0, .slice none 0 0, .slice none 0 0] 29)) = X1 at hS1 r25 hl1 ⊢
      generalize X0.heap.size = n25 at r25 hl1 hn0 ⊢
      have hS := hS1
      clear hS1
      refine wpAnyH_ready (rs := [2]) (by kernel_rfl) (by simp) (AllReadyH.cons rfl (fun K' hK => ?_) AllReadyH.nil)
      replace r25 := r25.alloc (.cells #[.int .i64 0, .int .i64 0, .int .i64 0, .int .i64 0] 3)
      have hS2 := hS.alloc hS.size (.cells #[.int .i64 0, .int .i64 0, .int .i64 0, .int .i64 0] 3)
      have r26 : Row oV (X1.alloc (.cells #[.int .i64 0, .int .i64 0, .int .i64 0, .int .i64 0] 3)) X1.heap.size 3 [oi 0, oi 0, oi 0, oi 0] := Row.new _ _ rfl
      refine valueD (d := 26) (v := .slice (some ⟨X1.heap.size, 0, none⟩) 4 4) (w' := X1.alloc (.cells #[.int .i64 0, .int .i64 0, .int .i64 0, .int .i64 0] 3)) rfl rfl (by first | rfl | kernel_rfl) ?_
      refine hK.out _ _ hS2 fun _ => ?_
      clear hK hS
      simp only [List.setIfInBounds_toArray, List.set_cons_succ, List.set_cons_zero]
      have hl2 : X1.heap.size < (X1.alloc (.cells #[.int .i64 0, .int .i64 0, .int .i64 0, .int .i64 0] 3)).heap.size := by simp
      generalize (X1.alloc (.cells #[.int .i64 0, .int .i64 0, .int .i64 0, .int .i64 0] 3)) = X2 at hS2 r25 r26 hl2 ⊢
      generalize X1.heap.size = n26 at r26 hl1 hl2 ⊢
      have hS := hS2
      clear hS2
      refine takeD (i := 3) (d := 27) (v := .agg #[.slice (some ⟨sb, so, none⟩) 1 sc, .slice (some ⟨bb, bo, none⟩) 1 bc, .slice (some ⟨n25, 0, none⟩) 12 12, .slice (some ⟨n26, 0, none⟩) 4 4, .slice none 0 0, .slice none 0 0, .map none]) rfl rfl (by kernel_rfl) (by kernel_rfl) (by kernel_rfl) (fun c a w h => h) (yieldsIf_op rfl (fun w => by first | rfl | kernel_rfl | (go_simp; done))) hS ?_
      simp only [List.setIfInBounds_toArray, List.set_cons_succ, List.set_cons_zero]
      refine wpAnyH_ready (rs := [4]) (by kernel_rfl) (by simp) (AllReadyH.cons rfl (fun K' hK => ?_) AllReadyH.nil)
      have hS3 := hS.alloc hS.size (.cells #[.slice (some ⟨sb, so, none⟩) 1 sc, .slice (some ⟨bb, bo, none⟩) 1 bc, .slice (some ⟨n25, 0, none⟩) 12 12, .slice (some ⟨n26, 0, none⟩) 4 4, .slice none 0 0, .slice none 0 0, .map none] 196)
      have r28 : Row oV (X2.alloc (.cells #[.slice (some ⟨sb, so, none⟩) 1 sc, .slice (some ⟨bb, bo, none⟩) 1 bc, .slice (some ⟨n25, 0, none⟩) 12 12, .slice (some ⟨n26, 0, none⟩) 4 4, .slice none 0 0, .slice none 0 0, .map none] 196)) X2.heap.size 196 (exC sb so sc bb bo bc n25 ⟨.slice (some ⟨n26, 0, none⟩) 4 4, rfl⟩ on on ⟨.map none, rfl⟩) := Row.new _ _ rfl
      replace r25 := r25.alloc (.cells #[.slice (some ⟨sb, so, none⟩) 1 sc, .slice (some ⟨bb, bo, none⟩) 1 bc, .slice (some ⟨n25, 0, none⟩) 12 12, .slice (some ⟨n26, 0, none⟩) 4 4, .slice none 0 0, .slice none 0 0, .map none] 196)
      refine valueD (d := 28) (v := .pointer (some ⟨X2.heap.size, 0, none⟩)) (w' := X2.alloc (.cells #[.slice (some ⟨sb, so, none⟩) 1 sc, .slice (some ⟨bb, bo, none⟩) 1 bc, .slice (some ⟨n25, 0, none⟩) 12 12, .slice (some ⟨n26, 0, none⟩) 4 4, .slice none 0 0, .slice none 0 0, .map none] 196)) rfl rfl (by first | rfl | kernel_rfl) ?_
      refine hK.out _ _ hS3 fun _ => ?_
      clear hK hS
      simp only [List.setIfInBounds_toArray, List.set_cons_succ, List.set_cons_zero]
      have hS := hS3
      clear hS3
      generalize (X2.alloc (.cells #[.slice (some ⟨sb, so, none⟩) 1 sc, .slice (some ⟨bb, bo, none⟩) 1 bc, .slice (some ⟨n25, 0, none⟩) 12 12, .slice (some ⟨n26, 0, none⟩) 4 4, .slice none 0 0, .slice none 0 0, .map none] 196)) = X3 at hS r25 r28 ⊢
      generalize X2.heap.size = n28 at r28 hl2 ⊢
      refine takeD (i := 5) (d := 9) (v := .pointer (some ⟨n28, 0, none⟩)) rfl rfl (by kernel_rfl) (by kernel_rfl) (by kernel_rfl) (fun c a w h => h) (yieldsIf_op rfl (fun w => by first | rfl | kernel_rfl | (go_simp; done))) hS ?_
      simp only [List.setIfInBounds_toArray, List.set_cons_succ, List.set_cons_zero]
      refine wpAnyH_done (by kernel_rfl) ?_ _
      go_wp2_with fail
      go_meet
      exact ⟨n28, n25, ⟨.slice (some ⟨n26, 0, none⟩) 4 4, rfl⟩, rfl, r28, r25, by omega, hW2.trans (hS.mono hs), by omega, by omega⟩
    · have hn0 : W2.heap.size ≤ W2.drew.heap.size := Nat.le_refl _
      generalize W2.drew = X0 at hS hn0 ⊢
      have hS1 := hS.alloc hS.size (.cells #[.int .i64 0, .int .i64 0, .int .i64 0, .int .i64 0] 3)
      have r26 : Row oV (X0.alloc (.cells #[.int .i64 0, .int .i64 0, .int .i64 0, .int .i64 0] 3)) X0.heap.size 3 [oi 0, oi 0, oi 0, oi 0] := Row.new _ _ rfl
      refine valueD (d := 26) (v := .slice (some ⟨X0.heap.size, 0, none⟩) 4 4) (w' := X0.alloc (.cells #[.int .i64 0, .int .i64 0, .int .i64 0, .int .i64 0] 3)) rfl rfl (by first | rfl | kernel_rfl) ?_
      refine hK.out _ _ hS1 fun _ => ?_
      clear hK hS
      simp only [List.setIfInBounds_toArray, List.set_cons_succ, List.set_cons_zero]
      have hl1 : X0.heap.size < (X0.alloc (.cells #[.int .i64 0, .int .i64 0, .int .i64 0, .int .i64 0] 3)).heap.size := by simp
      generalize (X0.alloc (.cells #[.int .i64 0, .int .i64 0, .int .i64 0, .int .i64 0] 3)) = X1 at hS1 r26 hl1 ⊢
      generalize X0.heap.size = n26 at r26 hl1 hn0 ⊢
      have hS := hS1
      clear hS1
      refine wpAnyH_ready (rs := [1]) (by kernel_rfl) (by simp) (AllReadyH.cons rfl (fun K' hK => ?_) AllReadyH.nil)
      replace r26 := r26.alloc (.cells #[.slice none 0 0, .slice none 0 0, .slice none 0 0, .slice none 0 0, .slice none 0 0, .slice none 0 0, .slice none 0 0, .slice none 0 0, .slice none 0 0, .slice none 0 0, .slice none 0 0, .slice none 0 0] 29)
      have hS2 := hS.alloc hS.size (.cells #[.slice none 0 0, .slice none 0 0, .slice none 0 0, .slice none 0 0, .slice none 0 0, .slice none 0 0, .slice none 0 0, .slice none 0 0, .slice none 0 0, .slice none 0 0, .slice none 0 0, .slice none 0 0] 29)
      have r25 : Row oV (X1.alloc (.cells #[.slice none 0 0, .slice none 0 0, .slice none 0 0, .slice none 0 0, .slice none 0 0, .slice none 0 0, .slice none 0 0, .slice none 0 0, .slice none 0 0, .slice none 0 0, .slice none 0 0, .slice none 0 0] 29)) X1.heap.size 29 [on, on, on, on, on, on, on, on, on, on, on, on] := Row.new _ _ rfl
      refine valueD (d := 25) (v := .slice (some ⟨X1.heap.size, 0, none⟩) 12 12) (w' := X1.alloc (.cells #[.slice none 0 0, .slice none 0 0, .slice none 0 0, .slice none 0 0, .slice none 0 0, .slice none 0 0, .slice none 0 0, .slice none 0 0, .slice none 0 0, .slice none 0 0, .slice none 0 0, .slice none 0 0] 29)) rfl rfl (by first | rfl | kernel_rfl) ?_
      refine hK.out _ _ hS2 fun _ => ?_
      clear hK hS
      simp only [List.setIfInBounds_toArray, List.set_cons_succ, List.set_cons_zero]
      have hl2 : X1.heap.size < (X1.alloc (.cells #[.slice none 0 0, .slice none 0 0, .slice none 0 0, .slice none 0 0, .slice none 0 0, .slice none 0 0, .slice none 0 0, .slice none 0 0, .slice none 0 0, .slice none 0 0, .slice none 0 0, .slice none 0 0] 29)).heap.size := by simp
      generalize (X1.alloc (.cells #[.slice none 0 0, .slice none 0 0, .slice none 0 0, .slice none 0 0, .slice none 0 0, .slice none 0 0, .slice none 0 0, .slice none 0 0, .slice none 0 0, .slice none 0 0, .slice none 0 0, .slice none 0 0] 29)) = X2 at hS2 r26 r25 hl2 ⊢
      generalize X1.heap.size = n25 at r25 hl1 hl2 ⊢
      have hS := hS2
      clear hS2
      refine takeD (i := 3) (d := 27) (v := .agg #[.slice (some ⟨sb, so, none⟩) 1 sc, .slice (some ⟨bb, bo, none⟩) 1 bc, .slice (some ⟨n25, 0, none⟩) 12 12, .slice (some ⟨n26, 0, none⟩) 4 4, .slice none 0 0, .slice none 0 0, .map none]) rfl rfl (by kernel_rfl) (by kernel_rfl) (by kernel_rfl) (fun c a w h => h) (yieldsIf_op rfl (fun w => by first | rfl | kernel_rfl | (go_simp; done))) hS ?_
      simp only [List.setIfInBounds_toArray, List.set_cons_succ, List.set_cons_zero]
      refine wpAnyH_ready (rs := [4]) (by kernel_rfl) (by simp) (AllReadyH.cons rfl (fun K' hK => ?_) AllReadyH.nil)
      have hS3 := hS.alloc hS.size (.cells #[.slice (some ⟨sb, so, none⟩) 1 sc, .slice (some ⟨bb, bo, none⟩) 1 bc, .slice (some ⟨n25, 0, none⟩) 12 12, .slice (some ⟨n26, 0, none⟩) 4 4, .slice none 0 0, .slice none 0 0, .map none] 196)
      have r28 : Row oV (X2.alloc (.cells #[.slice (some ⟨sb, so, none⟩) 1 sc, .slice (some ⟨bb, bo, none⟩) 1 bc, .slice (some ⟨n25, 0, none⟩) 12 12, .slice (some ⟨n26, 0, none⟩) 4 4, .slice none 0 0, .slice none 0 0, .map none] 196)) X2.heap.size 196 (exC sb so sc bb bo bc n25 ⟨.slice (some ⟨n26, 0, none⟩) 4 4, rfl⟩ on on ⟨.map none, rfl⟩) := Row.new _ _ rfl
      replace r25 := r25.alloc (.cells #[.slice (some ⟨sb, so, none⟩) 1 sc, .slice (some ⟨bb, bo, none⟩) 1 bc, .slice (some ⟨n25, 0, none⟩) 12 12, .slice (some ⟨n26, 0, none⟩) 4 4, .slice none 0 0, .slice none 0 0, .map none] 196)
      refine valueD (d := 28) (v := .pointer (some ⟨X2.heap.size, 0, none⟩)) (w' := X2.alloc (.cells #[.slice (some ⟨sb, so, none⟩) 1 sc, .slice (some ⟨bb, bo, none⟩) 1 bc, .slice (some ⟨n25, 0, none⟩) 12 12, .slice (some ⟨n26, 0, none⟩) 4 4, .slice none 0 0, .slice none 0 0, .map none] 196)) rfl rfl (by first | rfl | kernel_rfl) ?_
      refine hK.out _ _ hS3 fun _ => ?_
      clear hK hS
      simp only [List.setIfInBounds_toArray, List.set_cons_succ, List.set_cons_zero]
      have hS := hS3
      clear hS3
      generalize (X2.alloc (.cells #[.slice (some ⟨sb, so, none⟩) 1 sc, .slice (some ⟨bb, bo, none⟩) 1 bc, .slice (some ⟨n25, 0, none⟩) 12 12, .slice (some ⟨n26, 0, none⟩) 4 4, .slice none 0 0, .slice none 0 0, .map none] 196)) = X3 at hS r25 r28 ⊢
      generalize X2.heap.size = n28 at r28 hl2 ⊢
      refine takeD (i := 5) (d := 9) (v := .pointer (some ⟨n28, 0, none⟩)) rfl rfl (by kernel_rfl) (by kernel_rfl) (by kernel_rfl) (fun c a w h => h) (yieldsIf_op rfl (fun w => by first | rfl | kernel_rfl | (go_simp; done))) hS ?_
      simp only [List.setIfInBounds_toArray, List.set_cons_succ, List.set_cons_zero]
      refine wpAnyH_done (by kernel_rfl) ?_ _
      go_wp2_with fail
      go_meet
      exact ⟨n28, n25, ⟨.slice (some ⟨n26, 0, none⟩) 4 4, rfl⟩, rfl, r28, r25, by omega, hW2.trans (hS.mono hs), by omega, by omega⟩
  case rest =>
    clear p0 p1 hp hs
    obtain ⟨xb, mb, nv, rfl, hx, hmr, hne, hX, hxb, hmb⟩ := hcut
    go_upto_region 5 with (fail)
    have HC := Lib.hid (And.intro hx (And.intro hmr hX))
    have hlx := hx.lt
    have hlm := hmr.lt
    clear hx hmr hX
    refine region_headsT (S := fun X => Below wc.heap.size wc X) 6 rfl (by kernel_rfl) (Below.refl _ _).drew fun hS => ?_
    refine headsT_takeD (i := 0) (d := 29) (v := .pointer (some ⟨xb, 0, none⟩)) (by kernel_rfl) rfl rfl (by omega) (by kernel_rfl) (by kernel_rfl) (fun c a w h => h) (yieldsIf_op rfl (fun w => by first | rfl | kernel_rfl | (go_simp; done))) hS ?_
    simp only [List.setIfInBounds_toArray, List.set_cons_succ, List.set_cons_zero]
    refine headsT_takeD (i := 1) (d := 30) (v := .pointer (some ⟨xb, 0, none⟩)) (by kernel_rfl) rfl rfl (by omega) (by kernel_rfl) (by kernel_rfl) (fun c a w h => h) (yieldsIf_op rfl (fun w => by first | rfl | kernel_rfl | (go_simp; done))) hS ?_
    simp only [List.setIfInBounds_toArray, List.set_cons_succ, List.set_cons_zero]
    refine headsT_takeD (i := 2) (d := 31) (v := .pointer (some ⟨xb, 2, none⟩)) (by kernel_rfl) rfl rfl (by omega) (by kernel_rfl) (by kernel_rfl) (fun c a w h => h) (yieldsIf_op rfl (fun w => by first | rfl | kernel_rfl | (go_simp; done))) hS ?_
    simp only [List.setIfInBounds_toArray, List.set_cons_succ, List.set_cons_zero]
    refine headsT_takeD (i := 3) (d := 32) (v := .slice (some ⟨mb, 0, none⟩) 12 12) (by kernel_rfl) rfl rfl (by omega) (by kernel_rfl) (by kernel_rfl) (fun c a w h => h) (.inl ⟨by first | rfl | kernel_rfl, fun W' h => by have q0 : W'.cell? ⟨xb, 2, none⟩ = some (.slice (some ⟨mb, 0, none⟩) 12 12) := (by rw [(HC.out.1.below h hlx).cell?]; rfl); go_simp⟩) hS ?_
    simp only [List.setIfInBounds_toArray, List.set_cons_succ, List.set_cons_zero]
    refine headsT_takeD (i := 4) (d := 33) (v := .slice pu m.length cu) (by kernel_rfl) rfl rfl (by omega) (by kernel_rfl) (by kernel_rfl) (fun c a w h => h) (yieldsIf_op rfl (fun w => by first | rfl | kernel_rfl | (go_simp; done))) hS ?_
    simp only [List.setIfInBounds_toArray, List.set_cons_succ, List.set_cons_zero]
    refine headsT_ready (rs := [5]) (by kernel_rfl) (by simp) (AllReadyT.cons (by omega) rfl (fun K' hK => ?_) AllReadyT.nil)
    refine callD (d := 34) (g := 56) (args := #[.slice pu m.length cu]) rfl rfl (by first | kernel_rfl | (simp [execOp, resolve, invoke, Act.eval]) | go_simp) ?_
    refine (clone8 _ (.slice pu m.length cu) m (HU.out.below (HF.out _ (HC.out.2.2.trans (hS.mono (HF.out _ HC.out.2.2).2.2.2.2.2))).2.2.2.2.1) (by omega)).mono ?_
    rintro e Wd ⟨u1, rfl, hO1, hBd⟩
    obtain ⟨p1, k1', rfl⟩ := hO1.slice
    replace hS := hS.trans (hBd.mono hS.size)
    refine ⟨_, rfl, hK.out _ _ hS fun _ => ?_⟩
    clear hK hBd
    simp only [List.setIfInBounds_toArray, List.set_cons_succ, List.set_cons_zero]
    refine headsT_tail (by kernel_rfl) ?_
    simp only [List.drop]
    obtain ⟨hx, hmr, hX⟩ := HC.out
    replace hX := hX.trans (hS.mono (HF.out _ hX).2.2.2.2.2)
    replace hx := hx.below hS hlx
    replace hmr := hmr.below hS hlm
    have e0 : Wd.cell? ⟨mb, 0, none⟩ = some (.slice none 0 0) := by rw [hmr.cell?]; rfl
    have f0 := hmr.frozen 0
    have hx2 : Row oV (Wd.setCell ⟨mb, 0, none⟩ (.slice p1 m.length k1')) xb 196 (exC sb so sc bb bo bc mb nv on on ⟨.map none, rfl⟩) := hx.set_other (by omega) _ _
    have hm2 : Row oV (Wd.setCell ⟨mb, 0, none⟩ (.slice p1 m.length k1')) mb 29 [⟨.slice p1 m.length k1', rfl⟩, on, on, on, on, on, on, on, on, on, on, on] := hmr.set 0 ⟨.slice p1 m.length k1', rfl⟩
    have hX2 : Below (w.heap.size + 2) W (Wd.setCell ⟨mb, 0, none⟩ (.slice p1 m.length k1')) := below_set hX 0 hmb _
    have hO2 : Mem.Own u8V (Wd.setCell ⟨mb, 0, none⟩ (.slice p1 m.length k1')) wc.heap.size 5 (.slice p1 m.length k1') m := hO1.grown' (grown_set (grown_of_below (Below.refl _ _) (some mb)) 0 _) (fun g hg e => by injection e with e; have h1 := (hO1.lt g hg).1; have h3 : wc.drew.heap.size = wc.heap.size := rfl; omega)
    clear hx hmr hX hO1
    go_upto_region 6 with (fail)
    generalize (Wd.setCell ⟨mb, 0, none⟩ (.slice p1 m.length k1')) = We at hx2 hm2 hX2 hO2 ⊢
    clear e0 f0
    go_wp2_with fail
    refine (iAssign We _).mono ?_
    rintro e Wf ⟨bm, rfl, hBf⟩
    replace hx2 := hx2.below hBf hx2.lt
    replace hm2 := hm2.below hBf hm2.lt
    replace hX2 := hX2.trans (hBf.mono (HF.out _ hX2).2.2.2.2.2)
    replace hO2 := hO2.below' hBf
    clear hBf
    have e6 : Wf.cell? ⟨xb, 6, none⟩ = some (.map none) := by rw [hx2.cell?]; rfl
    have f6 := hx2.frozen 6
    have hx3 : Row oV (Wf.setCell ⟨xb, 6, none⟩ (.map (some bm))) xb 196 (exC sb so sc bb bo bc mb nv on on ⟨.map (some bm), rfl⟩) := hx2.set 6 ⟨.map (some bm), rfl⟩
    have hm3 : Row oV (Wf.setCell ⟨xb, 6, none⟩ (.map (some bm))) mb 29 [⟨.slice p1 m.length k1', rfl⟩, on, on, on, on, on, on, on, on, on, on, on] := hm2.set_other hne _ _
    have hX3 : Below (w.heap.size + 2) W (Wf.setCell ⟨xb, 6, none⟩ (.map (some bm))) := below_set hX2 6 hxb _
    have hO3 : Mem.Own u8V (Wf.setCell ⟨xb, 6, none⟩ (.map (some bm))) wc.heap.size 5 (.slice p1 m.length k1') m := hO2.grown' (grown_set (grown_of_below (Below.refl _ _) (some xb)) 6 _) (fun g hg e => by injection e with e; have h1 := (hO2.lt g hg).1; omega)
    clear hx2 hm2 hX2 hO2
    go_upto_region 7 with (fail)
    generalize (Wf.setCell ⟨xb, 6, none⟩ (.map (some bm))) = Wg at hx3 hm3 hX3 hO3 ⊢
    clear e6 f6
    have hXw := (HF.out _ hX3).2.2.2.2.1
    have hl : ∀ b, b < w.heap.size → b < Wg.heap.size := fun b h => Nat.lt_of_lt_of_le h hXw.size
    have hin : ExecIn Wg nm m wc.heap.size xb sb so sc bb bo bc mb nv ⟨.map (some bm), rfl⟩ := ⟨hx3, .slice p1 m.length k1', ib, io, ic, ⟨H1.out.1.below hXw l1, hl _ l1⟩, ⟨(hXw.cell (p := ⟨bb, bo, none⟩) l2).trans H1.out.2.1, hl _ l2⟩, ⟨(hXw.cell (p := ⟨ib, io, none⟩) l3).trans H1.out.2.2, hl _ l3⟩, ⟨by rw [hm3.cell?]; rfl, hm3.lt⟩, hO3, hm, hlx, Ne.symm hne⟩
    clear hx3 hm3 hO3 hXw hl
    go_wp2_with fail
    refine (iRun hin).mono ?_
    rintro e Wh ⟨rfl, hGh, hOut⟩
    replace hX3 := hX3.grown hGh (HF.out _ hX3).2.2.2.2.2 (fun k e => by cases e; exact hxb)
    clear hGh hin
    go_upto_region 8 with (fail)
    have hX8 := hX3.alloc (HF.out _ hX3).2.2.2.2.2 (.cells #[.bool true, .int .i64 0] 191)
    have hOut8 := hOut.below ((Below.refl Wh.heap.size Wh).alloc (Nat.le_refl _) (.cells #[.bool true, .int .i64 0] 191))
    have h10 : Row oV (Wh.alloc (.cells #[.bool true, .int .i64 0] 191)) Wh.heap.size 191 [ob true, oi 0] := Row.new _ _ rfl
    generalize (Wh.alloc (.cells #[.bool true, .int .i64 0] 191)) = X8 at hX8 hOut8 h10 ⊢
    generalize Wh.heap.size = n10 at h10 ⊢
    clear hX3 hOut
    refine region_headsT (S := fun X => Below X8.heap.size X8 X) 3 rfl (by kernel_rfl) (Below.refl _ _).drew fun hS => ?_
    refine headsT_takeD (i := 0) (d := 43) (v := .pointer (some ⟨xb, 0, none⟩)) (by kernel_rfl) rfl rfl (by omega) (by kernel_rfl) (by kernel_rfl) (fun c a w h => h) (yieldsIf_op rfl (fun w => by first | rfl | kernel_rfl | (go_simp; done))) hS ?_
    simp only [List.setIfInBounds_toArray, List.set_cons_succ, List.set_cons_zero]
    refine headsT_takeD (i := 1) (d := 44) (v := .agg #[.bool true, .int .i64 0]) (by kernel_rfl) rfl rfl (by omega) (by kernel_rfl) (by kernel_rfl) (fun c a w h => h) (yieldsIf_load (f := oV) (l := [ob true, oi 0]) aggVerdict (.tmp 10) rfl n10 0 rfl (fun W' h => (h10.below h h10.lt).at) rfl rfl) hS ?_
    simp only [List.setIfInBounds_toArray, List.set_cons_succ, List.set_cons_zero]
    refine headsT_takeD (i := 2) (d := 4) (v := .pointer (some ⟨xb, 0, none⟩)) (by kernel_rfl) rfl rfl (by omega) (by kernel_rfl) (by kernel_rfl) (fun c a w h => h) (yieldsIf_op rfl (fun w => by first | rfl | kernel_rfl | (go_simp; done))) hS ?_
    simp only [List.setIfInBounds_toArray, List.set_cons_succ, List.set_cons_zero]
    refine headsT_tail (by kernel_rfl) ?_
    simp only [List.drop]
    replace hX8 := hX8.trans (hS.mono (HF.out _ hX8).2.2.2.2.2)
    have hOut9 := hOut8.below hS
    obtain ⟨_, _, hZ8, _, hw8, hs8⟩ := HF.out _ hX8
    clear hS h10 hOut8
    generalize X8.drew = X9 at hX8 hOut9 hZ8 hw8 hs8 ⊢
    go_wp2_with (first
      | ((with_reducible refine store_agg (f := oV) (l := [ob false, oi 0]) (l' := [ob true, oi 0]) (t := 191) (C := #[.bool true, .int .i64 0]) aggVerdict (.tmp 5) (.tmp 44) ?_ ?_ (w.heap.size + 1) ?_ ?_ ?_ hZ8 ?_ oV_one ?_); rfl; rfl; rfl; rfl; rfl; rfl; (intro Y hsY hGY hzY)))
    refine bodyPost_ret (v := .tuple #[.pointer (some ⟨xb, 0, none⟩), .agg #[.bool true, .int .i64 0], .int .i64 0]) (results_agg3 (f := oV) (l := [ob true, oi 0]) (t := 6) (s := 4) rfl _ aggVerdict (w.heap.size + 1) 0 rfl hsY.at) rfl ?_
    exact ⟨xb, sb, so, sc, bb, bo, bc, mb, nv, _, rfl, hw8.grown hGY hw8.size (fun k e => by cases e; exact Nat.le_succ _), hOut9.grown hGY (by omega) hZ8⟩
end Go.Proofs.YtgflelodpcgmbaaGreatDoor
/- interp.Run of a program of one statement that appends a field. -/
namespace Go.Proofs.YtgflelodpcgmbaaGreatDoor
open Go.RowKit Mem
set_option maxRecDepth 100000

/-- v is the record of one field nm with the bytes m -/
def RecAt (w : World) (v : Value) (nm : ByteArray) (m : List UInt8) : Prop :=
  ∃ g c u, v = .agg #[.bool true, .int .i64 0, .slice (some ⟨g, 0, none⟩) 1 c] ∧ w.cell? ⟨g, 0, none⟩ = some (.string nm) ∧ w.cell? ⟨g, 1, none⟩ = some u ∧ Rd u8V w u m ∧ g < w.heap.size ∧ 1 ≤ c
theorem RecAt.below {w w' : World} {v : Value} {nm : ByteArray} {m : List UInt8} (h : RecAt w v nm m) (hb : Below w.heap.size w w') : RecAt w' v nm m := by
  obtain ⟨g, c, u, rfl, h2, h3, h4, h5, h6⟩ := h
  exact ⟨g, c, u, rfl, (hb.cell (p := ⟨g, 0, none⟩) h5).trans h2, (hb.cell (p := ⟨g, 1, none⟩) h5).trans h3, h4.below hb, Nat.lt_of_lt_of_le h5 hb.size, h6⟩
theorem aggRecord : AggT Tryz.prog 160 3 := ⟨fun _ => by kernel_rfl, fun _ => by kernel_rfl⟩

set_option maxHeartbeats 8000000 in
theorem iRun1 (w : World) (v : Value) (nm : ByteArray) (m : List UInt8) (u : Value) (HN : Hid (NameOK nm)) (hp : FP w v nm) (hu : Rd u8V w u m) (hm : m.length ≤ 4096) :
    Calls Tryz.prog 86 #[v, u] w fun e w' => ∃ r, e = .returned (.tuple #[r, .int .i64 0]) ∧ RecAt w' r nm m ∧ Below w.heap.size w w' := by
  have HP := Lib.hid hp
  have HU := Lib.hid hu
  obtain ⟨sb, so, sc, bb, bo, bc, ib, io, ic, rfl, _⟩ := hp
  obtain ⟨pu, cu, rfl⟩ := hu.slice
  clear hu
  go_enter Tryz.func86, Tryz.ntmps86
  go_upto_region 1 with (fail)
  obtain ⟨W, hW, hB, hs, g0, g1⟩ : ∃ W, (w.alloc (.cells #[.slice (some ⟨sb, so, none⟩) 1 sc, .slice (some ⟨bb, bo, none⟩) 1 bc] 63)).alloc (.cells #[.bool false, .int .i64 0, .slice none 0 0] 160) = W ∧ Below w.heap.size w W ∧ w.heap.size + 2 ≤ W.heap.size ∧ W.heap[w.heap.size]? = some (.cells #[.slice (some ⟨sb, so, none⟩) 1 sc, .slice (some ⟨bb, bo, none⟩) 1 bc] 63 (0, 0)) ∧ W.heap[w.heap.size + 1]? = some (.cells #[.bool false, .int .i64 0, .slice none 0 0] 160 (0, 0)) := by
    refine ⟨_, rfl, ((Below.refl _ _).alloc (Nat.le_refl _) _).alloc (by simp) _, by simp, ?_, ?_⟩
    all_goals repeat (first | exact heap_new' _ _ _ (by (try simp) <;> omega) | refine (Below.heap_alloc _ _ _ (by (try simp) <;> omega)).trans ?_)
  rw [hW]
  clear hW
  have p0 : W.cell? ⟨w.heap.size, 0, none⟩ = some (.slice (some ⟨sb, so, none⟩) 1 sc) := by unfold World.cell?; rw [g0]; rfl
  have p1 : W.cell? ⟨w.heap.size, 1, none⟩ = some (.slice (some ⟨bb, bo, none⟩) 1 bc) := by unfold World.cell?; rw [g0]; rfl
  have hZ : Row oV W (w.heap.size + 1) 160 [ob false, oi 0, on] := g1
  clear g0 g1
  go_wp2_with fail
  refine (iRead1 W _ nm m _ HN (HP.out.below hB) (HU.out.below hB) hm).mono ?_
  rintro e W1 ⟨xb, sb', so', sc', bb', bo', bc', mb, nv, av, rfl, hB1, hOut⟩
  replace hZ := hZ.below hB1 hZ.lt
  replace hB := hB.trans (hB1.mono hB.size)
  have hs1 := Nat.le_trans hs hB1.size
  clear p0 p1 hB1 hs
  have hOut2 := hOut.below ((Below.refl W1.heap.size W1).alloc (Nat.le_refl _) (.cells #[.bool true, .int .i64 0] 191))
  have hZ2 := hZ.alloc (.cells #[.bool true, .int .i64 0] 191)
  have hB2 := hB.alloc hB.size (.cells #[.bool true, .int .i64 0] 191)
  go_upto_region 2 with (fail)
  have q0 : (W1.alloc (.cells #[.bool true, .int .i64 0] 191)).cell? ⟨W1.heap.size, 0, none⟩ = some (.bool true) := by unfold World.cell?; rw [World.alloc_heap_new]; rfl
  generalize (W1.alloc (.cells #[.bool true, .int .i64 0] 191)) = W2 at hOut2 hZ2 hB2 q0 ⊢
  generalize W1.heap.size = n7 at q0 hs1 ⊢
  clear hOut hZ hB
  obtain ⟨g, c, ts, u', hx, h2, h3, h4, h5, h6⟩ := hOut2
  have x4 : W2.cell? ⟨xb, 4, none⟩ = some (.slice (some ⟨g, 0, none⟩) 1 c) := by rw [hx.cell?]; rfl
  have hl2 := hZ2.lt
  go_wp2_with (first
    | ((with_reducible refine store_agg (f := oV) (l := [ob false, oi 0, on]) (l' := [ob true, oi 0, ⟨.slice (some ⟨g, 0, none⟩) 1 c, rfl⟩]) (t := 160) (C := #[.bool true, .int .i64 0, .slice (some ⟨g, 0, none⟩) 1 c]) aggRecord (.tmp 4) (.tmp 32) ?_ ?_ (w.heap.size + 1) ?_ ?_ ?_ hZ2 ?_ oV_one ?_); rfl; rfl; rfl; rfl; rfl; rfl; (intro Y hsY hGY hzY)))
  have hgr : g ≠ w.heap.size + 1 := by
    rintro rfl
    have := hZ2.cell? 0
    rw [h2] at this
    cases this
  refine bodyPost_ret (v := .tuple #[.agg #[.bool true, .int .i64 0, .slice (some ⟨g, 0, none⟩) 1 c], .int .i64 0]) (results_agg2 (f := oV) (l := [ob true, oi 0, ⟨.slice (some ⟨g, 0, none⟩) 1 c, rfl⟩]) (t := 5) rfl _ aggRecord (w.heap.size + 1) 0 rfl hsY.at) rfl ?_
  refine ⟨_, rfl, ⟨g, c, u', rfl, (World.cell?_of_block (a := ⟨g, 0, none⟩) (hGY.block g h5 (by intro e; injection e with e; exact hgr e))).trans h2, (World.cell?_of_block (a := ⟨g, 1, none⟩) (hGY.block g h5 (by intro e; injection e with e; exact hgr e))).trans h3, ?_, Nat.lt_of_lt_of_le h5 hGY.size, h6⟩, hB2.grown hGY hB2.size (fun k e => by cases e; exact Nat.le_succ _)⟩
  exact Rd.grownC h4 hGY hZ2 (by intro x hx y; rcases List.mem_cons.1 hx with rfl | hx; · intro e; cases e
                                 rcases List.mem_cons.1 hx with rfl | hx; · intro e; cases e
                                 rcases List.mem_cons.1 hx with rfl | hx; · intro e; cases e
                                 cases hx)
end Go.Proofs.YtgflelodpcgmbaaGreatDoor
