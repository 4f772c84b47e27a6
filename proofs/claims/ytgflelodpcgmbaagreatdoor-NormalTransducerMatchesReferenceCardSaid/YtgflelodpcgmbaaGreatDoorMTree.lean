/- The blocks and statements of a program of one statement form a tree. -/
import Derived.RegionTactic
import Derived.Test.YtgflelodpcgmbaaGreatDoorMDial2
namespace Go.Proofs.YtgflelodpcgmbaaGreatDoor
open Go.RowKit Mem
set_option maxRecDepth 100000

theorem rounds_step {P : Program} {c : Code} {Q : Exit → Act → World → Prop} {n : Nat} {a : Act} {w : World} (h : c.wp P (Exit.then (Code.rounds P c Q n) Q) a w) : Code.rounds P c Q (n + 1) a w := h

theorem idxBool1 (w : World) (A : Nat) (hc : w.cell? ⟨A, 0, none⟩ = some (.bool true)) :
    Calls Tryz.prog 142 #[.slice (some ⟨A, 0, none⟩) 1 1, .bool false] w fun e w' => e = .returned (.int .i64 (-1)) ∧ w' = w := by
  go_enter Tryz.func142, Tryz.ntmps142
  go_wp2_with fail
  refine wp_loop_rounds 2 ?_
  refine rounds_step (n := 1) ?_
  go_wp2_with fail
  refine rounds_step (n := 0) ?_
  go_wp2
  go_ret
  exact ⟨rfl, rfl⟩
theorem containsBool1 (w : World) (A : Nat) (hc : w.cell? ⟨A, 0, none⟩ = some (.bool true)) :
    Calls Tryz.prog 117 #[.slice (some ⟨A, 0, none⟩) 1 1, .bool false] w fun e w' => e = .returned (.bool false) ∧ w' = w := by
  go_enter Tryz.func117, Tryz.ntmps117
  go_wp2_with fail
  refine (idxBool1 w A hc).mono ?_
  rintro e w ⟨rfl, rfl⟩
  go_wp2
  go_ret
  exact ⟨rfl, rfl⟩
theorem dVisit0 (w : World) (A : Nat) (hc : w.cell? ⟨A, 0, none⟩ = some (.bool false)) (hf : w.frozen? ⟨A, 0, none⟩ = false) :
    Calls Tryz.prog 116 #[.slice (some ⟨A, 0, none⟩) 1 1, .int .i64 0] w fun e w' => e = .returned (.bool true) ∧ w' = w.setCell ⟨A, 0, none⟩ (.bool true) := by
  go_enter Tryz.func116, Tryz.ntmps116
  go_wp2
  go_ret
  exact ⟨rfl, rfl⟩

set_option maxHeartbeats 8000000 in
theorem dTree1 (w : World) (v : Value) (nm : ByteArray) (hp : FP w v nm) :
    Calls Tryz.prog 99 #[v] w fun e w' => e = .returned (.bool true) ∧ Below w.heap.size w w' := by
  obtain ⟨sb, so, sc, bb, bo, bc, ib, io, ic, rfl, ⟨k1, k2, k3⟩, ⟨h1, l1⟩, ⟨h2, l2⟩, h3, l3⟩ := hp
  go_enter Tryz.func99, Tryz.ntmps99
  have hR0 : (w.alloc (.cells #[.slice (some ⟨sb, so, none⟩) 1 sc, .slice (some ⟨bb, bo, none⟩) 1 bc] 63)).heap[w.heap.size]? = some (.cells #[.slice (some ⟨sb, so, none⟩) 1 sc, .slice (some ⟨bb, bo, none⟩) 1 bc] 63 (0, 0)) := World.alloc_heap_new _ _
  have hB0 : Below w.heap.size w (w.alloc (.cells #[.slice (some ⟨sb, so, none⟩) 1 sc, .slice (some ⟨bb, bo, none⟩) 1 bc] 63)) := (Below.refl _ _).alloc (Nat.le_refl _) _
  have hs0 : w.heap.size < (w.alloc (.cells #[.slice (some ⟨sb, so, none⟩) 1 sc, .slice (some ⟨bb, bo, none⟩) 1 bc] 63)).heap.size := by simp
  go_upto_region 1 with (fail)
  generalize (w.alloc (.cells #[.slice (some ⟨sb, so, none⟩) 1 sc, .slice (some ⟨bb, bo, none⟩) 1 bc] 63)) = W at *
  have p0 : W.cell? ⟨w.heap.size, 0, none⟩ = some (.slice (some ⟨sb, so, none⟩) 1 sc) := by unfold World.cell?; rw [hR0]; rfl
  have p1 : W.cell? ⟨w.heap.size, 1, none⟩ = some (.slice (some ⟨bb, bo, none⟩) 1 bc) := by unfold World.cell?; rw [hR0]; rfl
  have HP := Lib.hid (And.intro hR0 (And.intro hB0 hs0))
  have H1 := Lib.hid h1
  have H2 := Lib.hid h2
  have H3 := Lib.hid h3
  clear hR0 hB0 hs0 h1 h2 h3
  have hm : ∀ w, (Instr.makeSlice 24 (.int .i64 1) (.int .i64 1)).run Tryz.prog w = .ok (.slice (some ⟨w.heap.size, 0, none⟩) 1 1) (w.alloc (.cells #[.bool false] 4)) := fun w => by first | rfl | kernel_rfl
  go_cut [3, 4] (fun s3 s4 wx => ∃ A B : Nat, A ≠ B ∧ w.heap.size < A ∧ w.heap.size < B ∧ s3 = .slice (some ⟨A, 0, none⟩) 1 1 ∧ s4 = .slice (some ⟨B, 0, none⟩) 1 1 ∧ Row oV wx A 4 [ob false] ∧ Row oV wx B 4 [ob false] ∧ Below (w.heap.size + 1) W wx)
  case first =>
    have hs0 := HP.out.2.2
    have hB1 : Below (w.heap.size + 1) W (W.alloc (.cells #[.bool false] 4)) := (Below.refl _ W).alloc hs0 _
    have p0a : (W.alloc (.cells #[.bool false] 4)).cell? ⟨w.heap.size, 0, none⟩ = some (.slice (some ⟨sb, so, none⟩) 1 sc) := (hB1.cell (p := ⟨w.heap.size, 0, none⟩) (Nat.lt_succ_self _)).trans p0
    have p1a : (W.alloc (.cells #[.bool false] 4)).cell? ⟨w.heap.size, 1, none⟩ = some (.slice (some ⟨bb, bo, none⟩) 1 bc) := (hB1.cell (p := ⟨w.heap.size, 1, none⟩) (Nat.lt_succ_self _)).trans p1
    have hRa : Row oV ((W.alloc (.cells #[.bool false] 4)).alloc (.cells #[.bool false] 4)) W.heap.size 4 [ob false] := Row.alloc (Row.new (f := oV) (l := [ob false]) W (.cells #[.bool false] 4) rfl) _
    have hRb : Row oV ((W.alloc (.cells #[.bool false] 4)).alloc (.cells #[.bool false] 4)) (W.heap.size + 1) 4 [ob false] := heap_new' _ _ _ (by simp)
    have hB2 : Below (w.heap.size + 1) W ((W.alloc (.cells #[.bool false] 4)).alloc (.cells #[.bool false] 4)) := hB1.alloc (by simp; omega) _
    have HZ := Lib.hid (And.intro hs0 (And.intro hRa (And.intro hRb hB2)))
    clear hs0 hB1 hRa hRb hB2
    go_region
    · go_wp2_with fail
      go_meet
      exact ⟨W.heap.size, W.heap.size + 1, by omega, HZ.out.1, by have := HZ.out.1; omega, rfl, rfl, HZ.out.2.1, HZ.out.2.2.1, HZ.out.2.2.2.drew⟩
    · go_wp2_with fail
      go_meet
      exact ⟨W.heap.size + 1, W.heap.size, by omega, by have := HZ.out.1; omega, HZ.out.1, rfl, rfl, HZ.out.2.2.1, HZ.out.2.1, HZ.out.2.2.2.drew⟩
  case rest =>
    obtain ⟨A, B, hAB, hA, hB, rfl, rfl, hRA, hRB, hb⟩ := hcut
    have HF : Hid (∀ X, Below (w.heap.size + 1) W X → X.cell? ⟨w.heap.size, 0, none⟩ = some (.slice (some ⟨sb, so, none⟩) 1 sc) ∧ X.cell? ⟨w.heap.size, 1, none⟩ = some (.slice (some ⟨bb, bo, none⟩) 1 bc) ∧
        X.cell? ⟨bb, bo, none⟩ = some (.slice (some ⟨ib, io, none⟩) 1 ic) ∧ X.cell? ⟨ib, io, none⟩ = some (.int .i64 0) ∧ X.cell? ⟨sb, so + 31, none⟩ = some (.int .i64 (-1)) ∧ X.cell? ⟨sb, so + 32, none⟩ = some (.int .i64 (-1))) := Lib.hid fun X hX => by
      obtain ⟨hR0, hB0, hs0⟩ := HP.out
      have hX0 : Below w.heap.size w X := hB0.trans (hX.mono (Nat.le_succ _))
      exact ⟨(hX.cell (p := ⟨w.heap.size, 0, none⟩) (Nat.lt_succ_self _)).trans p0, (hX.cell (p := ⟨w.heap.size, 1, none⟩) (Nat.lt_succ_self _)).trans p1, (hX0.cell (p := ⟨bb, bo, none⟩) l2).trans H2.out, (hX0.cell (p := ⟨ib, io, none⟩) l3).trans H3.out,
        (hX0.cell (p := ⟨sb, so + 31, none⟩) l1).trans (H1.out 31 (by rw [stC_length]; omega)), (hX0.cell (p := ⟨sb, so + 32, none⟩) l1).trans (H1.out 32 (by rw [stC_length]; omega))⟩
    clear p0 p1
    go_wp2_with fail
    refine (dVisit0 wc A (by rw [hRA.cell?]; rfl) (hRA.frozen 0)).mono ?_
    rintro e w2 ⟨rfl, hw2⟩
    have hRA2 : Row oV w2 A 4 [ob true] := by rw [hw2]; exact hRA.set 0 (ob true)
    have hRB2 : Row oV w2 B 4 [ob false] := by rw [hw2]; exact hRB.set_other (Ne.symm hAB) 0 _
    have hb2 : Below (w.heap.size + 1) W w2 := by rw [hw2]; exact below_set hb 0 hA _
    clear hw2 hRA hRB hb wc
    go_wp2_with fail
    have hT : Row oV (w2.alloc (.cells #[.int .i64 0] 3)) w2.heap.size 3 [oi 0] := Row.new _ _ rfl
    have hTl : A < w2.heap.size ∧ B < w2.heap.size := ⟨hRA2.lt, hRB2.lt⟩
    replace hRA2 := hRA2.alloc (.cells #[.int .i64 0] 3)
    replace hRB2 := hRB2.alloc (.cells #[.int .i64 0] 3)
    replace hb2 : Below (w.heap.size + 1) W (w2.alloc (.cells #[.int .i64 0] 3)) := hb2.alloc (by omega) _
    generalize w2.heap.size = T at *
    generalize w2.alloc (.cells #[.int .i64 0] 3) = w3 at *
    clear w2
    obtain ⟨p0, p1, q0, i0, t0, e0⟩ := HF.out w3 hb2
    have x0 : w3.cell? ⟨T, 0, none⟩ = some (.int .i64 0) := by rw [hT.cell?]; rfl
    have HRA := Lib.hid hRA2
    have HRB := Lib.hid hRB2
    have HT := Lib.hid hT
    clear hRA2 hRB2 hT
    refine wp_loop_rounds 2 ?_
    refine rounds_step (n := 1) ?_
    go_wp2_with fail
    refine wp_loop_rounds 2 ?_
    refine rounds_step (n := 1) ?_
    go_wp2_with fail
    refine (dVisit0 w3 B (by rw [HRB.out.cell?]; rfl) (HRB.out.frozen 0)).mono ?_
    rintro e w4 ⟨rfl, hw4⟩
    have hRA4 : Row oV w4 A 4 [ob true] := by rw [hw4]; exact HRA.out.set_other hAB 0 _
    have hRB4 : Row oV w4 B 4 [ob true] := by rw [hw4]; exact HRB.out.set 0 (ob true)
    have hb4 : Below (w.heap.size + 1) W w4 := by rw [hw4]; exact below_set hb2 0 hB _
    clear hw4 p0 p1 q0 i0 t0 e0 x0 HT HRA HRB hb2 w3
    obtain ⟨p0, p1, q0, i0, t0, e0⟩ := HF.out w4 hb4
    have HRA := Lib.hid hRA4
    have HRB := Lib.hid hRB4
    clear hRA4 hRB4
    go_upto_region 13 with (fail)
    have hN : Row oV ((w4.alloc (.cells #[.int .i64 (-1), .int .i64 (-1)] 3)).drew) w4.heap.size 3 [oi (-1), oi (-1)] := Row.new (f := oV) (l := [oi (-1), oi (-1)]) w4 (.cells #[.int .i64 (-1), .int .i64 (-1)] 3) rfl
    have hRA5 : Row oV ((w4.alloc (.cells #[.int .i64 (-1), .int .i64 (-1)] 3)).drew) A 4 [ob true] := HRA.out.alloc _
    have hRB5 : Row oV ((w4.alloc (.cells #[.int .i64 (-1), .int .i64 (-1)] 3)).drew) B 4 [ob true] := HRB.out.alloc _
    have hb5 : Below (w.heap.size + 1) W ((w4.alloc (.cells #[.int .i64 (-1), .int .i64 (-1)] 3)).drew) := (hb4.alloc (by have := HRA.out.lt; omega) _).drew
    have HX := Lib.hid (And.intro hN (And.intro hRA5 (And.intro hRB5 hb5)))
    clear hN hRA5 hRB5 hb5
    go_region
    go_wp2_with fail
    obtain ⟨hN, hRA5, hRB5, hb5⟩ := HX.out
    clear HX p0 p1 q0 i0 t0 e0 hb4 HRA HRB
    generalize w4.heap.size = U at *
    generalize (w4.alloc (.cells #[.int .i64 (-1), .int .i64 (-1)] 3)).drew = w5 at *
    clear w4
    have n0 : w5.cell? ⟨U, 0, none⟩ = some (.int .i64 (-1)) := by rw [hN.cell?]; rfl
    have n1 : w5.cell? ⟨U, 1, none⟩ = some (.int .i64 (-1)) := by rw [hN.cell?]; rfl
    have HRA := Lib.hid hRA5
    have HRB := Lib.hid hRB5
    clear hN hRA5 hRB5
    refine wp_loop_rounds 3 ?_
    refine rounds_step (n := 2) ?_
    go_wp2_with fail
    refine rounds_step (n := 1) ?_
    go_wp2_with fail
    refine rounds_step (n := 0) ?_
    go_wp2_with fail
    refine rounds_step (n := 0) ?_
    go_wp2_with fail
    refine rounds_step (n := 0) ?_
    go_wp2_with fail
    refine (containsBool1 w5 A (by rw [HRA.out.cell?]; rfl)).mono ?_
    rintro e w5 ⟨rfl, rfl⟩
    go_wp2_with fail
    refine (containsBool1 w5 B (by rw [HRB.out.cell?]; rfl)).mono ?_
    rintro e w5 ⟨rfl, rfl⟩
    go_wp2
    go_ret
    exact ⟨rfl, HP.out.2.1.trans (hb5.mono (Nat.le_succ _))⟩
end Go.Proofs.YtgflelodpcgmbaaGreatDoor
/- A program of one statement that appends a field is well-formed; its bound. -/
namespace Go.Proofs.YtgflelodpcgmbaaGreatDoor
open Go.RowKit Mem
set_option maxRecDepth 100000

set_option maxHeartbeats 8000000 in
theorem dValid1 (w : World) (v : Value) (nm : ByteArray) (HN : Hid (NameOK nm)) (hp : FP w v nm) :
    Calls Tryz.prog 77 #[v] w fun e w' => e = .returned (.int .i64 0) ∧ Below w.heap.size w w' := by
  have HP := Lib.hid hp
  obtain ⟨sb, so, sc, bb, bo, bc, ib, io, ic, rfl, ⟨k1, k2, k3⟩, ⟨h1, l1⟩, ⟨h2, l2⟩, h3, l3⟩ := hp
  have H1 := Lib.hid h1
  clear h1 h2 h3
  go_enter Tryz.func77, Tryz.ntmps77
  have hR0 : (w.alloc (.cells #[.slice (some ⟨sb, so, none⟩) 1 sc, .slice (some ⟨bb, bo, none⟩) 1 bc] 63)).heap[w.heap.size]? = some (.cells #[.slice (some ⟨sb, so, none⟩) 1 sc, .slice (some ⟨bb, bo, none⟩) 1 bc] 63 (0, 0)) := World.alloc_heap_new _ _
  have hB0 : Below w.heap.size w (w.alloc (.cells #[.slice (some ⟨sb, so, none⟩) 1 sc, .slice (some ⟨bb, bo, none⟩) 1 bc] 63)) := (Below.refl _ _).alloc (Nat.le_refl _) _
  have hs0 : w.heap.size < (w.alloc (.cells #[.slice (some ⟨sb, so, none⟩) 1 sc, .slice (some ⟨bb, bo, none⟩) 1 bc] 63)).heap.size := by simp
  go_upto_region 1 with (fail)
  generalize (w.alloc (.cells #[.slice (some ⟨sb, so, none⟩) 1 sc, .slice (some ⟨bb, bo, none⟩) 1 bc] 63)) = W at *
  have HF : Hid (∀ X, Below (w.heap.size + 1) W X → X.cell? ⟨w.heap.size, 0, none⟩ = some (.slice (some ⟨sb, so, none⟩) 1 sc) ∧ X.cell? ⟨w.heap.size, 1, none⟩ = some (.slice (some ⟨bb, bo, none⟩) 1 bc) ∧ At oV X sb so (stC 13 0 nm (-1) (-1)) ∧ Below w.heap.size w X) := Lib.hid fun X hX => by
    have p0 : W.cell? ⟨w.heap.size, 0, none⟩ = some (.slice (some ⟨sb, so, none⟩) 1 sc) := by unfold World.cell?; rw [hR0]; rfl
    have p1 : W.cell? ⟨w.heap.size, 1, none⟩ = some (.slice (some ⟨bb, bo, none⟩) 1 bc) := by unfold World.cell?; rw [hR0]; rfl
    have hX0 : Below w.heap.size w X := hB0.trans (hX.mono (Nat.le_succ _))
    exact ⟨(hX.cell (p := ⟨w.heap.size, 0, none⟩) (Nat.lt_succ_self _)).trans p0, (hX.cell (p := ⟨w.heap.size, 1, none⟩) (Nat.lt_succ_self _)).trans p1, H1.out.below hX0 l1, hX0⟩
  clear hR0 hB0
  have hW : Below (w.heap.size + 1) W W := Below.refl _ _
  obtain ⟨p0, p1, hA, _⟩ := HF.out W hW
  obtain ⟨C, HC⟩ : ∃ C, Hid (C = ((stC 13 0 nm (-1) (-1)).map oV).toArray) := ⟨_, Lib.hid rfl⟩
  go_wp2_with fail
  have hZ : Row oV (W.alloc (.cells zStmtC 125)) W.heap.size 125 (stC 0 0 ⟨#[]⟩ 0 0) := Row.new _ _ rfl
  have hW1 : Below (w.heap.size + 1) W (W.alloc (.cells zStmtC 125)) := hW.alloc (by omega) _
  refine wp_loop_rounds 2 ?_
  refine rounds_step (n := 1) ?_
  go_wp2_with (first
    | ((with_reducible refine load_agg (f := oV) (l := stC 13 0 nm (-1) (-1)) (aggStmtL _ _ _ _ _) (.tmp 25) ?_ ?_ sb so ?_ hA HC.out ?_); rfl; rfl; rfl)
    | ((with_reducible refine store_agg (f := oV) (l := stC 0 0 ⟨#[]⟩ 0 0) (l' := stC 13 0 nm (-1) (-1)) (t := 125) (C := C) (aggStmtL _ _ _ _ _) (.tmp 4) (.tmp 26) ?_ ?_ W.heap.size ?_ ?_ ?_ hZ ?_ oV_one ?_); rfl; rfl; rfl; exact HC.out; rfl; rfl; (intro W5 hs5 hG5 hz5))
    | ((with_reducible refine load_agg (f := oV) (l := stC 13 0 nm (-1) (-1)) (aggStmtL _ _ _ _ _) (.tmp 4) ?_ ?_ W.heap.size 0 ?_ hs5.at HC.out ?_); rfl; rfl; rfl))
  have hW5 : Below (w.heap.size + 1) W W5 := hW1.grown hG5 (by simp; omega) (fun k e => by cases e; omega)
  refine (dCheck13 W5 0 (by omega) nm HN C HC).mono ?_
  rintro e W6 ⟨rfl, hB6⟩
  have hW6 : Below (w.heap.size + 1) W W6 := hW5.trans (hB6.mono (Nat.le_trans (by omega) hW5.size))
  clear hZ hW1 hs5 hG5 hz5 hW5 hB6 p0 p1 hA
  obtain ⟨p0, p1, hA, hw6⟩ := HF.out W6 hW6
  go_wp2_with fail
  refine rounds_step (n := 0) ?_
  go_wp2_with fail
  refine (dTree1 W6 _ nm (HP.out.below hw6)).mono ?_
  rintro e W7 ⟨rfl, hB7⟩
  go_wp2
  go_ret
  exact ⟨rfl, hw6.trans (hB7.mono hw6.size)⟩
end Go.Proofs.YtgflelodpcgmbaaGreatDoor
