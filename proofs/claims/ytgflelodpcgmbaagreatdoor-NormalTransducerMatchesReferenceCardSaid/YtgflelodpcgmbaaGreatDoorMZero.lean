/- dialect.Valid and resolve.Check of the zero program. -/
import Derived.Test.YtgflelodpcgmbaaGreatDoorMWalk
import Derived.Test.YtgflelodpcgmbaaGreatDoorMUnion
import Derived.Test.YtgflelodpcgmbaaGreatDoorMExec
namespace Go.Proofs.YtgflelodpcgmbaaGreatDoor
open Go.RowKit Mem
set_option maxRecDepth 100000

set_option maxHeartbeats 8000000 in
theorem dValid0 (w : World) :
    Calls Tryz.prog 77 #[.agg #[.slice none 0 0, .slice none 0 0]] w fun e w' => e = .returned (.int .i64 1) ∧ Below w.heap.size w w' := by
  go_enter Tryz.func77, Tryz.ntmps77
  go_upto_region 1 with (fail)
  have hB : Below w.heap.size w (w.alloc (.cells #[.slice none 0 0, .slice none 0 0] 63)) := below_al (Below.refl _ _) (Nat.le_refl _) _
  have p0 : (w.alloc (.cells #[.slice none 0 0, .slice none 0 0] 63)).cell? ⟨w.heap.size, 0, none⟩ = some (.slice none 0 0) := by unfold World.cell?; rw [World.alloc_heap_new]; rfl
  have p1 : (w.alloc (.cells #[.slice none 0 0, .slice none 0 0] 63)).cell? ⟨w.heap.size, 1, none⟩ = some (.slice none 0 0) := by unfold World.cell?; rw [World.alloc_heap_new]; rfl
  generalize (w.alloc (.cells #[.slice none 0 0, .slice none 0 0] 63)) = W at *
  go_wp2
  go_ret
  exact ⟨rfl, hB⟩

set_option maxHeartbeats 8000000 in
theorem rCheck0 (w : World) :
    Calls Tryz.prog 54 #[.agg #[.slice none 0 0, .slice none 0 0]] w fun e w' => ∃ a b c : OC, e = .returned (.tuple #[.agg #[oV a, oV b, oV c], .int .i64 1]) ∧ Below w.heap.size w w' := by
  go_enter Tryz.func54, Tryz.ntmps54
  go_upto_region 1 with (fail)
  obtain ⟨W, hW, hB, hs, g0, g1⟩ : ∃ W, (w.alloc (.cells #[.slice none 0 0, .slice none 0 0] 63)).alloc (.cells #[.int .i64 0, .int .i64 0, .slice none 0 0] 108) = W ∧ Below w.heap.size w W ∧ w.heap.size + 2 ≤ W.heap.size ∧ W.heap[w.heap.size]? = some (.cells #[.slice none 0 0, .slice none 0 0] 63 (0, 0)) ∧ W.heap[w.heap.size + 1]? = some (.cells #[.int .i64 0, .int .i64 0, .slice none 0 0] 108 (0, 0)) := by
    refine ⟨_, rfl, below_al (below_al (Below.refl _ _) (Nat.le_refl _) _) (Nat.le_refl _) _, by simp, ?_, ?_⟩
    all_goals repeat (first | (refine heap_new' _ _ _ ?_; (simp; done)) | (refine (Below.heap_alloc _ _ _ ?_).trans ?_; · (simp <;> omega)))
  rw [hW]
  clear hW
  have p0 : W.cell? ⟨w.heap.size, 0, none⟩ = some (.slice none 0 0) := by unfold World.cell?; rw [g0]; rfl
  have p1 : W.cell? ⟨w.heap.size, 1, none⟩ = some (.slice none 0 0) := by unfold World.cell?; rw [g0]; rfl
  have hZ : Row oV W (w.heap.size + 1) 108 [oi 0, oi 0, on] := g1
  clear g0 g1
  go_wp2_with fail
  refine (dValid0 W).mono ?_
  rintro e W1 ⟨rfl, hB1⟩
  replace hZ := hZ.below hB1 hZ.lt
  replace hB := hB.trans (hB1.mono hB.size)
  clear p0 p1 hB1 hs
  go_wp2_with (first
    | ((with_reducible refine store_agg (f := oV) (l := [oi 0, oi 0, on]) (l' := [oi 0, oi 0, on]) (t := 108) (C := #[.int .i64 0, .int .i64 0, .slice none 0 0]) aggInfo (.tmp 2) (.tmp 18) ?_ ?_ (w.heap.size + 1) ?_ ?_ ?_ hZ ?_ oV_one ?_); rfl; rfl; rfl; rfl; rfl; rfl; (intro Y hsY hGY hzY)))
  refine bodyPost_ret (v := .tuple #[.agg #[.int .i64 0, .int .i64 0, .slice none 0 0], .int .i64 1]) (results_agg2 (f := oV) (l := [oi 0, oi 0, on]) (t := 3) rfl _ aggInfo (w.heap.size + 1) 0 rfl hsY.at) rfl ?_
  exact ⟨oi 0, oi 0, on, rfl, hB.grown hGY hB.size (fun k e => by cases e; exact Nat.le_succ _)⟩
end Go.Proofs.YtgflelodpcgmbaaGreatDoor
/- univocalref17.line of one statement. -/
namespace Go.Proofs.YtgflelodpcgmbaaGreatDoor
open Go Go.RowKit Mem
set_option maxRecDepth 100000

theorem aggProgram : AggT Tryz.prog 63 2 := ⟨fun _ => by kernel_rfl, fun _ => by kernel_rfl⟩
theorem set31 (nm : ByteArray) : ((stC 13 0 nm 0 0).set 31 (oi (-1))).set 32 (oi (-1)) = stC 13 0 nm (-1) (-1) := rfl
def osl (b n c : Nat) : OC := ⟨.slice (some ⟨b, 0, none⟩) n c, rfl⟩

set_option maxHeartbeats 16000000 in
theorem line1 (w : World) (g c : Nat) (_hc : 1 ≤ c) (nm : ByteArray) (hg : Row oV w g 125 (stC 13 0 nm 0 0)) :
    Calls Tryz.prog 57 #[.slice (some ⟨g, 0, none⟩) 1 c] w fun e w' => ∃ v, e = .returned v ∧ FP w' v nm ∧ w.grownBy w' (some g) := by
  have hgl := hg.lt
  go_enter Tryz.func57, Tryz.ntmps57
  go_upto_region 2 with (fail)
  obtain ⟨W, hW, hB, hs, g0, g1, g2, g3⟩ : ∃ W, ((((w.alloc (.cells #[.slice none 0 0, .slice none 0 0] 63)).alloc (.cells #[] 3)).alloc (.cells #[.slice (some ⟨w.heap.size + 1, 0, none⟩) 0 0] 119)).alloc (.cells #[.slice none 0 0, .slice (some ⟨w.heap.size + 1 + 1, 0, none⟩) 1 1] 63)) = W ∧ Below w.heap.size w W ∧ W.heap.size = w.heap.size + 4 ∧ Row oV W w.heap.size 63 [on, on] ∧ W.heap[w.heap.size + 1]? = some (.cells #[] 3 (0, 0)) ∧ Row oV W (w.heap.size + 2) 119 [osl (w.heap.size + 1) 0 0] ∧ Row oV W (w.heap.size + 3) 63 [on, osl (w.heap.size + 2) 1 1] := by
    refine ⟨_, rfl, below_al (below_al (below_al (below_al (Below.refl _ _) (Nat.le_refl _) _) (Nat.le_refl _) _) (Nat.le_refl _) _) (Nat.le_refl _) _, by simp, ?_, ?_, ?_, ?_⟩
    all_goals repeat (first | (refine heap_new' _ _ _ ?_; (simp; done)) | (refine (Below.heap_alloc _ _ _ ?_).trans ?_; · (simp <;> omega)))
  rw [hW]
  clear hW
  rw [show w.heap.size + 1 + 1 = w.heap.size + 2 from rfl, show w.heap.size + 2 + 1 = w.heap.size + 3 from rfl]
  have hg1 : Row oV W g 125 (stC 13 0 nm 0 0) := hg.below hB hgl
  have fg31 := hg1.frozen 31
  have fg32 := hg1.frozen 32
  have cg31 : W.cell? ⟨g, 31, none⟩ = some (.int .i64 0) := by rw [hg1.cell?]; rfl
  have cg32 : W.cell? ⟨g, 32, none⟩ = some (.int .i64 0) := by rw [hg1.cell?]; rfl
  have hg2 := hg1.set 31 (oi (-1))
  have hg3 : Row oV ((W.setCell ⟨g, 31, none⟩ (.int .i64 (-1))).setCell ⟨g, 32, none⟩ (.int .i64 (-1))) g 125 (stC 13 0 nm (-1) (-1)) := hg2.set 32 (oi (-1))
  have hG3 : w.grownBy ((W.setCell ⟨g, 31, none⟩ (.int .i64 (-1))).setCell ⟨g, 32, none⟩ (.int .i64 (-1))) (some g) := grown_set (grown_set (grown_of_below hB _) 31 _) 32 _
  have g0' := (g0.set_other (b' := g) (by omega) 31 (.int .i64 (-1))).set_other (b' := g) (by omega) 32 (.int .i64 (-1))
  have g2' := (g2.set_other (b' := g) (by omega) 31 (.int .i64 (-1))).set_other (b' := g) (by omega) 32 (.int .i64 (-1))
  have g3' := (g3.set_other (b' := g) (by omega) 31 (.int .i64 (-1))).set_other (b' := g) (by omega) 32 (.int .i64 (-1))
  have g1' : ((W.setCell ⟨g, 31, none⟩ (.int .i64 (-1))).setCell ⟨g, 32, none⟩ (.int .i64 (-1))).heap[w.heap.size + 1]? = some (.cells #[] 3 (0, 0)) := (Below.heap_setCell _ _ _ _ (by show w.heap.size + 1 ≠ g; omega)).trans ((Below.heap_setCell _ _ _ _ (by show w.heap.size + 1 ≠ g; omega)).trans g1)
  have hs' : ((W.setCell ⟨g, 31, none⟩ (.int .i64 (-1))).setCell ⟨g, 32, none⟩ (.int .i64 (-1))).heap.size = w.heap.size + 4 := by simp [hs]
  clear g0 g1 g2 g3 hg1 hg2 hB hg hs
  go_wp2_with fail
  refine wp_loop_rounds 2 ?_
  refine rounds_step (n := 1) ?_
  go_upto_region 7 with (fail)
  generalize ((W.setCell ⟨g, 31, none⟩ (.int .i64 (-1))).setCell ⟨g, 32, none⟩ (.int .i64 (-1))) = W3 at *
  clear fg31 fg32 cg31 cg32 W
  generalize hn : w.heap.size = n at *
  obtain ⟨C, HC⟩ : ∃ C, Hid (C = ((stC 13 0 nm (-1) (-1)).map oV).toArray) := ⟨_, Lib.hid rfl⟩
  have k3 : W3.cell? ⟨n + 3, 0, none⟩ = some (.slice none 0 0) := by rw [g3'.cell?]; rfl
  refine region_headsT (S := fun X => X.cell? ⟨n + 3, 0, none⟩ = some (.slice none 0 0) ∧ Below W3.heap.size W3 X) 8 rfl (by kernel_rfl) ⟨k3, (Below.refl _ _).drew⟩ fun hS => ?_
  refine headsT_takeD (i := 0) (d := 22) (v := .pointer (some ⟨n + 3, 0, none⟩)) (by kernel_rfl) rfl rfl (by omega) (by kernel_rfl) (by kernel_rfl) (fun c a w h => h) (yieldsIf_op rfl (fun w => by first | rfl | kernel_rfl | (go_simp; done))) hS ?_
  simp only [List.setIfInBounds_toArray, List.set_cons_succ, List.set_cons_zero]
  refine headsT_takeD (i := 1) (d := 23) (v := .slice none 0 0) (by kernel_rfl) rfl rfl (by omega) (by kernel_rfl) (by kernel_rfl) (fun c a w h => h) (.inl ⟨by first | rfl | kernel_rfl, fun W' h => by obtain ⟨q0, _⟩ := h; go_simp⟩) hS ?_
  simp only [List.setIfInBounds_toArray, List.set_cons_succ, List.set_cons_zero]
  refine headsT_takeD (i := 2) (d := 24) (v := .slice (some ⟨g, 0, none⟩) 1 c) (by kernel_rfl) rfl rfl (by omega) (by kernel_rfl) (by kernel_rfl) (fun c a w h => h) (yieldsIf_op rfl (fun w => by first | rfl | kernel_rfl | (go_simp; done))) hS ?_
  simp only [List.setIfInBounds_toArray, List.set_cons_succ, List.set_cons_zero]
  refine headsT_takeD (i := 3) (d := 25) (v := .int .i64 0) (by kernel_rfl) rfl rfl (by omega) (by kernel_rfl) (by kernel_rfl) (fun c a w h => h) (yieldsIf_op rfl (fun w => by first | rfl | kernel_rfl | (go_simp; done))) hS ?_
  simp only [List.setIfInBounds_toArray, List.set_cons_succ, List.set_cons_zero]
  refine headsT_takeD (i := 4) (d := 26) (v := .pointer (some ⟨g, 0, none⟩)) (by kernel_rfl) rfl rfl (by omega) (by kernel_rfl) (by kernel_rfl) (fun c a w h => h) (yieldsIf_op rfl (fun w => by go_simp)) hS ?_
  simp only [List.setIfInBounds_toArray, List.set_cons_succ, List.set_cons_zero]
  refine headsT_takeD (i := 5) (d := 27) (v := .agg C) (by kernel_rfl) rfl rfl (by omega) (by kernel_rfl) (by kernel_rfl) (fun c a w h => h) (yieldsIf_load (f := oV) (l := stC 13 0 nm (-1) (-1)) (aggStmtL _ _ _ _ _) (.tmp 26) rfl g 0 rfl (fun W' h => (hg3.below h.2 hg3.lt).at) HC.out rfl) hS ?_
  simp only [List.setIfInBounds_toArray, List.set_cons_succ, List.set_cons_zero]
  refine headsT_ready (rs := [6]) (by kernel_rfl) (by simp) (AllReadyT.cons (by omega) rfl (fun K' hK => ?_) AllReadyT.nil)
  have hSa : (W3.drew.alloc (.cells C 125)).cell? ⟨n + 3, 0, none⟩ = some (.slice none 0 0) ∧ Below W3.heap.size W3 (W3.drew.alloc (.cells C 125)) :=
    ⟨(((Below.refl W3.drew.heap.size W3.drew).alloc (Nat.le_refl _) _).cell (p := ⟨n + 3, 0, none⟩) (by show n + 3 < W3.heap.size; omega)).trans hS.1, hS.2.alloc hS.2.size _⟩
  refine valueD (d := 28) (v := .slice (some ⟨W3.drew.heap.size, 0, none⟩) 1 1) (w' := W3.drew.alloc (.cells C 125)) rfl rfl (by have h := HC.out; subst h; show _ = _; kernel_rfl) ?_
  refine hK.out _ _ hSa fun _ => ?_
  clear hK
  simp only [List.setIfInBounds_toArray, List.set_cons_succ, List.set_cons_zero]
  refine headsT_ready (rs := [7]) (by kernel_rfl) (by simp) (AllReadyT.cons (by omega) rfl (fun K' hK => ?_) AllReadyT.nil)
  have n0 : (W3.drew.alloc (.cells C 125)).heap[W3.drew.heap.size]? = some (.cells C 125 (0, 0)) := World.alloc_heap_new _ _
  generalize hWb : (W3.drew.alloc (.cells C 125)) = Wb at *
  have hn4 : W3.drew.heap.size = n + 4 := hs'
  rw [hn4] at n0 ⊢
  have n1 : ∀ (j : Nat) (u : Value), ((stC 13 0 nm (-1) (-1)).map oV)[j]? = some u → Wb.cell? ((⟨n + 4, 0, none⟩ : Addr).add j) = some u := by
    intro j u hj
    have h2 : ((⟨n + 4, 0, none⟩ : Addr).add j) = ⟨n + 4, j, none⟩ := by unfold Addr.add; split <;> simp_all
    rw [h2]; unfold World.cell?; rw [n0, HC.out]
    simpa using hj
  rw [if_pos (by rfl)]
  refine wp_append_own Wb (.tmp 23) (.tmp 28) 60 rfl Wb.heap.size 125 _ _ 33 368 Tryz.underlying60 rfl rfl rfl rfl rfl (by omega) (.slice none 0 0) 0 [] rfl (World.ownsRow_nil _ _ _ _) ⟨n + 4, 0, none⟩ 1 1 ((stC 13 0 nm (-1) (-1)).map oV) rfl (by rw [List.length_map, stC_length]) n1 (fun u hu => by obtain ⟨y, _, rfl⟩ := List.mem_map.1 hu; exact y.2) (by simp only [maxLen]; omega) (by omega) (Nat.le_refl _) ?_
  intro v2 w2 hO2 hgr hnil
  have hWbs : n + 4 ≤ Wb.heap.size := by rw [← hs']; exact hSa.2.size
  obtain ⟨g2, c2, rfl, hb2, hg2, hc2⟩ : ∃ g c, v2 = .slice (some ⟨g, 0, none⟩) 1 c ∧ n + 4 ≤ g ∧ g < w2.heap.size ∧ 1 ≤ c := by
    rcases hO2.2 with ⟨_, h0⟩ | ⟨g, cap, cur, he, hb, hg, hn', _⟩
    · omega
    · exact ⟨g, cap, he, Nat.le_trans hWbs hb, (Array.getElem?_eq_some_iff.1 hg).1, hn'⟩
  have hBw : Below Wb.heap.size Wb w2 := (Below.refl _ _).grown hgr (Nat.le_refl _) (fun k e => by cases e)
  have m0 : At oV w2 g2 0 (stC 13 0 nm (-1) (-1)) := fun i hi => by
    have h := hO2.cells rfl i (((stC 13 0 nm (-1) (-1)).map oV)[i]'(by simpa using hi)) (by rw [List.nil_append, List.getElem?_eq_getElem (by simpa using hi)])
    have h2 : ((⟨g2, 0, none⟩ : Addr).add i) = ⟨g2, 0 + i, none⟩ := by unfold Addr.add; split <;> simp_all
    rw [h2] at h
    rw [h, List.getElem?_eq_getElem hi, Option.map_some, List.getElem_map]
  have hB2 : Below W3.heap.size W3 w2 := hSa.2.trans (hBw.mono hSa.2.size)
  have hS2 : w2.cell? ⟨n + 3, 0, none⟩ = some (.slice none 0 0) ∧ Below W3.heap.size W3 w2 := ⟨(hB2.cell (p := ⟨n + 3, 0, none⟩) (by show n + 3 < W3.heap.size; omega)).trans k3, hB2⟩
  refine hK.out _ _ hS2 fun _ => ?_
  clear hK hO2 hgr hnil n0 n1 hWb hBw hSa hS hS2 k3
  simp only [Act.put, List.setIfInBounds_toArray]
  refine headsT_tail (by kernel_rfl) ?_
  simp only [List.drop]
  have r0 := g0'.below hB2 (by omega)
  have r2 := g2'.below hB2 (by omega)
  have r3 := g3'.below hB2 (by omega)
  have r1 := (hB2.block (n + 1) (by omega)).trans g1'
  have G2 : w.grownBy w2 (some g) := hG3.andThen (grown_of_below hB2 (some g)) (fun j e => .inr e)
  have z2 : n + 4 ≤ w2.heap.size := by have := hB2.size; omega
  clear hB2 g0' g1' g2' g3' hG3 hs' hWbs hg3 HC hn4
  have f3 := r3.frozen 0
  have k3 : w2.cell? ⟨n + 3, 0, none⟩ = some (.slice none 0 0) := by rw [r3.cell?]; rfl
  go_upto_region 8 with (fail)
  have r0' := r0.set_other (b' := n + 3) (by omega) 0 (.slice (some ⟨g2, 0, none⟩) 1 c2)
  have r2' := r2.set_other (b' := n + 3) (by omega) 0 (.slice (some ⟨g2, 0, none⟩) 1 c2)
  have r3' : Row oV (w2.setCell ⟨n + 3, 0, none⟩ (.slice (some ⟨g2, 0, none⟩) 1 c2)) (n + 3) 63 [osl g2 1 c2, osl (n + 2) 1 1] := r3.set 0 (osl g2 1 c2)
  have r1' := (Below.heap_setCell w2 ⟨n + 3, 0, none⟩ (.slice (some ⟨g2, 0, none⟩) 1 c2) (n + 1) (by show n + 1 ≠ n + 3; omega)).trans r1
  have G3 : w2.grownBy (w2.setCell ⟨n + 3, 0, none⟩ (.slice (some ⟨g2, 0, none⟩) 1 c2)) (some (n + 3)) := grown_set (grown_of_below (Below.refl _ _) _) 0 _
  have m1 := m0.grown G3 hg2 (fun e => by injection e with e; omega)
  have G4 := G2.andThen G3 (fun j e => .inl (by cases e; omega))
  have z3 : n + 4 ≤ (w2.setCell ⟨n + 3, 0, none⟩ (.slice (some ⟨g2, 0, none⟩) 1 c2)).heap.size := by simpa using z2
  have hg3 : g2 < (w2.setCell ⟨n + 3, 0, none⟩ (.slice (some ⟨g2, 0, none⟩) 1 c2)).heap.size := by simpa using hg2
  clear G3 G2 r0 r1 r2 r3 f3 k3 m0 z2 hg2
  generalize (w2.setCell ⟨n + 3, 0, none⟩ (.slice (some ⟨g2, 0, none⟩) 1 c2)) = W5 at *
  have e2 : W5.cell? ⟨n + 2, 0, none⟩ = some (.slice (some ⟨n + 1, 0, none⟩) 0 0) := by rw [r2'.cell?]; rfl
  have e3 : W5.cell? ⟨n + 3, 1, none⟩ = some (.slice (some ⟨n + 2, 0, none⟩) 1 1) := by rw [r3'.cell?]; rfl
  refine region_headsT (S := fun X => X.cell? ⟨n + 2, 0, none⟩ = some (.slice (some ⟨n + 1, 0, none⟩) 0 0) ∧ X.cell? ⟨n + 3, 1, none⟩ = some (.slice (some ⟨n + 2, 0, none⟩) 1 1) ∧ W5.grownBy X (some (n + 1))) 9 rfl (by kernel_rfl) ⟨e2, e3, grown_drew (grown_of_below (Below.refl _ _) _)⟩ fun hS => ?_
  refine headsT_takeD (i := 0) (d := 31) (v := .pointer (some ⟨n + 3, 1, none⟩)) (by kernel_rfl) rfl rfl (by omega) (by kernel_rfl) (by kernel_rfl) (fun c a w h => h) (yieldsIf_op rfl (fun w => by first | rfl | kernel_rfl | (go_simp; done))) hS ?_
  simp only [List.setIfInBounds_toArray, List.set_cons_succ, List.set_cons_zero]
  refine headsT_takeD (i := 1) (d := 32) (v := .slice (some ⟨n + 2, 0, none⟩) 1 1) (by kernel_rfl) rfl rfl (by omega) (by kernel_rfl) (by kernel_rfl) (fun c a w h => h) (.inl ⟨by first | rfl | kernel_rfl, fun W' h => by obtain ⟨q0, q1, _⟩ := h; go_simp⟩) hS ?_
  simp only [List.setIfInBounds_toArray, List.set_cons_succ, List.set_cons_zero]
  refine headsT_takeD (i := 2) (d := 33) (v := .pointer (some ⟨n + 3, 1, none⟩)) (by kernel_rfl) rfl rfl (by omega) (by kernel_rfl) (by kernel_rfl) (fun c a w h => h) (yieldsIf_op rfl (fun w => by first | rfl | kernel_rfl | (go_simp; done))) hS ?_
  simp only [List.setIfInBounds_toArray, List.set_cons_succ, List.set_cons_zero]
  refine headsT_takeD (i := 3) (d := 34) (v := .slice (some ⟨n + 2, 0, none⟩) 1 1) (by kernel_rfl) rfl rfl (by omega) (by kernel_rfl) (by kernel_rfl) (fun c a w h => h) (.inl ⟨by first | rfl | kernel_rfl, fun W' h => by obtain ⟨q0, q1, _⟩ := h; go_simp⟩) hS ?_
  simp only [List.setIfInBounds_toArray, List.set_cons_succ, List.set_cons_zero]
  refine headsT_takeD (i := 4) (d := 35) (v := .pointer (some ⟨n + 2, 0, none⟩)) (by kernel_rfl) rfl rfl (by omega) (by kernel_rfl) (by kernel_rfl) (fun c a w h => h) (yieldsIf_op rfl (fun w => by go_simp)) hS ?_
  simp only [List.setIfInBounds_toArray, List.set_cons_succ, List.set_cons_zero]
  refine headsT_takeD (i := 5) (d := 36) (v := .slice (some ⟨n + 1, 0, none⟩) 0 0) (by kernel_rfl) rfl rfl (by omega) (by kernel_rfl) (by kernel_rfl) (fun c a w h => h) (.inl ⟨by first | rfl | kernel_rfl, fun W' h => by obtain ⟨q0, q1, _⟩ := h; go_simp⟩) hS ?_
  simp only [List.setIfInBounds_toArray, List.set_cons_succ, List.set_cons_zero]
  refine headsT_takeD (i := 6) (d := 37) (v := .int .i64 0) (by kernel_rfl) rfl rfl (by omega) (by kernel_rfl) (by kernel_rfl) (fun c a w h => h) (yieldsIf_op rfl (fun w => by first | rfl | kernel_rfl | (go_simp; done))) hS ?_
  simp only [List.setIfInBounds_toArray, List.set_cons_succ, List.set_cons_zero]
  refine headsT_ready (rs := [7]) (by kernel_rfl) (by simp) (AllReadyT.cons (by omega) rfl (fun K' hK => ?_) AllReadyT.nil)
  have hGa : W5.grownBy (W5.drew.alloc (.cells #[.int .i64 0] 3)) (some (n + 1)) := hS.2.2.andThen (grown_of_below ((Below.refl _ _).alloc (Nat.le_refl _) _) (some (n + 1))) (fun j e => .inr e)
  have hSa : (W5.drew.alloc (.cells #[.int .i64 0] 3)).cell? ⟨n + 2, 0, none⟩ = some (.slice (some ⟨n + 1, 0, none⟩) 0 0) ∧ (W5.drew.alloc (.cells #[.int .i64 0] 3)).cell? ⟨n + 3, 1, none⟩ = some (.slice (some ⟨n + 2, 0, none⟩) 1 1) ∧ W5.grownBy (W5.drew.alloc (.cells #[.int .i64 0] 3)) (some (n + 1)) :=
    ⟨(World.cell?_of_block (a := ⟨n + 2, 0, none⟩) (hGa.block (n + 2) (by omega) (fun e => by injection e with e; omega))).trans e2, (World.cell?_of_block (a := ⟨n + 3, 1, none⟩) (hGa.block (n + 3) (by omega) (fun e => by injection e with e; omega))).trans e3, hGa⟩
  refine valueD (d := 38) (v := .slice (some ⟨W5.drew.heap.size, 0, none⟩) 1 1) (w' := W5.drew.alloc (.cells #[.int .i64 0] 3)) rfl rfl (by first | rfl | kernel_rfl) ?_
  refine hK.out _ _ hSa fun _ => ?_
  clear hK
  simp only [List.setIfInBounds_toArray, List.set_cons_succ, List.set_cons_zero]
  refine headsT_ready (rs := [8]) (by kernel_rfl) (by simp) (AllReadyT.cons (by omega) rfl (fun K' hK => ?_) AllReadyT.nil)
  have n0 : (W5.drew.alloc (.cells #[.int .i64 0] 3)).heap[W5.drew.heap.size]? = some (.cells #[.int .i64 0] 3 (0, 0)) := World.alloc_heap_new _ _
  have r1b : (W5.drew.alloc (.cells #[.int .i64 0] 3)).heap[n + 1]? = some (.cells #[] 3 (0, 0)) := (((Below.refl W5.drew.heap.size W5.drew).alloc (Nat.le_refl _) _).block (n + 1) (by show n + 1 < W5.heap.size; omega)).trans r1'
  have hzb : W5.drew.heap.size < (W5.drew.alloc (.cells #[.int .i64 0] 3)).heap.size := by simp
  have hz5 : n + 4 ≤ W5.drew.heap.size := z3
  generalize hWb : (W5.drew.alloc (.cells #[.int .i64 0] 3)) = Wb at *
  generalize W5.drew.heap.size = nb at *
  have n1 : ∀ (j : Nat) (u : Value), ([.int .i64 0] : List Value)[j]? = some u → Wb.cell? ((⟨nb, 0, none⟩ : Addr).add j) = some u := by
    intro j u hj
    have h2 : ((⟨nb, 0, none⟩ : Addr).add j) = ⟨nb, j, none⟩ := by unfold Addr.add; split <;> simp_all
    rw [h2]; unfold World.cell?; rw [n0]
    simpa using hj
  rw [if_pos (by rfl)]
  refine wp_append_own Wb (.tmp 36) (.tmp 38) 119 rfl (n + 1) 3 _ _ 1 8 Tryz.underlying119 rfl rfl rfl rfl rfl (by omega) (.slice (some ⟨n + 1, 0, none⟩) 0 0) 0 [] rfl ⟨rfl, .inr ⟨n + 1, 0, #[], rfl, Nat.le_refl _, r1b, Nat.le_refl _, by simp only [maxLen]; omega, rfl, rfl⟩⟩ ⟨nb, 0, none⟩ 1 1 [.int .i64 0] rfl rfl n1 (by simp [Value.oneCell']) (by simp only [maxLen]; omega) (by omega) (by omega) ?_
  intro v2 w3 hO2 hgr hnil
  have hG5 : W5.grownBy w3 (some (n + 1)) := hGa.andThen hgr (fun j e => .inr e)
  have q2 := r2'.grown hG5 (fun e => by injection e with e; omega)
  have q3 := r3'.grown hG5 (fun e => by injection e with e; omega)
  have q0 := r0'.grown hG5 (fun e => by injection e with e; omega)
  have m2 := m1.grown hG5 hg3 (fun e => by injection e with e; omega)
  have G5 := G4.andThen hG5 (fun j e => .inl (by cases e; omega))
  obtain ⟨g3, c3, rfl, hb3, hg3', hc3, hne⟩ : ∃ g c, v2 = .slice (some ⟨g, 0, none⟩) 1 c ∧ n + 1 ≤ g ∧ g < w3.heap.size ∧ 1 ≤ c ∧ (g ≠ n + 2 ∧ g ≠ n + 3) := by
    rcases hO2.2 with ⟨_, h0⟩ | ⟨g, cap, cur, he, hb, hg, hn', _⟩
    · omega
    · refine ⟨g, cap, he, hb, (Array.getElem?_eq_some_iff.1 hg).1, hn', ?_, ?_⟩
      · rintro rfl; unfold Row at q2; rw [hg] at q2; cases q2
      · rintro rfl; unfold Row at q3; rw [hg] at q3; cases q3
  have m3 : w3.cell? ⟨g3, 0, none⟩ = some (.int .i64 0) := by
    have := hO2.cells rfl 0 (.int .i64 0) rfl
    simpa [Addr.add] using this
  have hS3 : w3.cell? ⟨n + 2, 0, none⟩ = some (.slice (some ⟨n + 1, 0, none⟩) 0 0) ∧ w3.cell? ⟨n + 3, 1, none⟩ = some (.slice (some ⟨n + 2, 0, none⟩) 1 1) ∧ W5.grownBy w3 (some (n + 1)) := ⟨by rw [q2.cell?]; rfl, by rw [q3.cell?]; rfl, hG5⟩
  refine hK.out _ _ hS3 fun _ => ?_
  have hgz : g2 < w3.heap.size := Nat.lt_of_lt_of_le hg3 hG5.size
  clear hK hO2 hgr hnil n0 n1 hWb hSa hS hS3 hG5 hGa G4 m1 r0' r1' r2' r3' e2 e3 hzb r1b z3 hz5
  simp only [Act.put, List.setIfInBounds_toArray]
  refine headsT_tail (by kernel_rfl) ?_
  simp only [List.drop]
  have f2 := q2.frozen 0
  have k2 : w3.cell? ⟨n + 2, 0, none⟩ = some (.slice (some ⟨n + 1, 0, none⟩) 0 0) := by rw [q2.cell?]; rfl
  have p2 : Row oV (w3.setCell ⟨n + 2, 0, none⟩ (.slice (some ⟨g3, 0, none⟩) 1 c3)) (n + 2) 119 [osl g3 1 c3] := q2.set 0 (osl g3 1 c3)
  have p3 := q3.set_other (b' := n + 2) (by omega) 0 (.slice (some ⟨g3, 0, none⟩) 1 c3)
  have p0 := q0.set_other (b' := n + 2) (by omega) 0 (.slice (some ⟨g3, 0, none⟩) 1 c3)
  have G6 : w3.grownBy (w3.setCell ⟨n + 2, 0, none⟩ (.slice (some ⟨g3, 0, none⟩) 1 c3)) (some (n + 2)) := grown_set (grown_of_below (Below.refl _ _) _) 0 _
  have m4 := m2.grown G6 hgz (fun e => by injection e with e; omega)
  have m5 := (World.cell?_of_block (a := ⟨g3, 0, none⟩) (G6.block g3 hg3' (fun e => by injection e with e; exact hne.1 e))).trans m3
  have G7 := G5.andThen G6 (fun j e => .inl (by cases e; omega))
  have z7 : g2 < (w3.setCell ⟨n + 2, 0, none⟩ (.slice (some ⟨g3, 0, none⟩) 1 c3)).heap.size := by simpa using hgz
  have z8 : g3 < (w3.setCell ⟨n + 2, 0, none⟩ (.slice (some ⟨g3, 0, none⟩) 1 c3)).heap.size := by simpa using hg3'
  have t0 : (w3.setCell ⟨n + 2, 0, none⟩ (.slice (some ⟨g3, 0, none⟩) 1 c3)).cell? ⟨n + 3, 0, none⟩ = some (.slice (some ⟨g2, 0, none⟩) 1 c2) := by rw [p3.cell?]; rfl
  have t1 : (w3.setCell ⟨n + 2, 0, none⟩ (.slice (some ⟨g3, 0, none⟩) 1 c3)).cell? ⟨n + 3, 1, none⟩ = some (.slice (some ⟨n + 2, 0, none⟩) 1 1) := by rw [p3.cell?]; rfl
  have HF := Lib.hid (And.intro p2 (And.intro p3 (And.intro m4 (And.intro m5 (And.intro G7 (And.intro z7 z8))))))
  clear p2 p3 m4 m5 G7 z7 z8 G6 m2 m3 G5 q0 q3
  go_wp2_with fail
  refine rounds_step (n := 0) ?_
  generalize (w3.setCell ⟨n + 2, 0, none⟩ (.slice (some ⟨g3, 0, none⟩) 1 c3)) = W6 at *
  go_wp2_with (first
    | ((with_reducible refine store_agg (f := oV) (l := [on, on]) (l' := [osl g2 1 c2, osl (n + 2) 1 1]) (t := 63) (C := #[.slice (some ⟨g2, 0, none⟩) 1 c2, .slice (some ⟨n + 2, 0, none⟩) 1 1]) aggProgram (.tmp 2) (.tmp 41) ?_ ?_ n ?_ ?_ ?_ p0 ?_ oV_one ?_); rfl; rfl; rfl; rfl; rfl; rfl; (intro Y hsY hGY hzY)))
  obtain ⟨p2, p3, m4, m5, G7, z7, z8⟩ := HF.out
  refine bodyPost_ret (v := .agg #[.slice (some ⟨g2, 0, none⟩) 1 c2, .slice (some ⟨n + 2, 0, none⟩) 1 1]) (results_agg (f := oV) (l := [osl g2 1 c2, osl (n + 2) 1 1]) rfl _ aggProgram n 0 rfl hsY.at) rfl ?_
  have p2' := p2.grown hGY (fun e => by injection e with e; omega)
  refine ⟨_, rfl, ⟨g2, 0, c2, n + 2, 0, 1, g3, 0, c3, rfl, ⟨hc2, Nat.le_refl _, hc3⟩, ⟨m4.grown hGY z7 (fun e => by injection e with e; omega), Nat.lt_of_lt_of_le z7 hGY.size⟩, ⟨by rw [p2'.cell?]; rfl, p2'.lt⟩, (World.cell?_of_block (a := ⟨g3, 0, none⟩) (hGY.block g3 z8 (fun e => by injection e with e; omega))).trans m5, Nat.lt_of_lt_of_le z8 hGY.size⟩, G7.andThen hGY (fun j e => .inl (by cases e; omega))⟩
end Go.Proofs.YtgflelodpcgmbaaGreatDoor
/- univocalref17.Small(0). -/
namespace Go.Proofs.YtgflelodpcgmbaaGreatDoor
open Go Go.RowKit Mem
set_option maxRecDepth 100000

theorem below_row {w W W' : World} {o : Obj} (h : Below w.heap.size w W) (hG : (W.alloc o).grownBy W' (some W.heap.size)) : Below w.heap.size w W' :=
  (below_al h (Nat.le_refl _) o).grown hG (Nat.le_trans h.size (by simp)) (fun k e => by cases e; exact h.size)
/-- the cells of a statement with a kind, X, Y, Z, B, Last and a name -/
def stG (kind x y z : Int) (b : OC) (last : Bool) (nm : ByteArray) : List OC :=
  [oi kind, oi x, oi y, oi z, oi 0, oi 0, oi 0, b, ob last, oi 0, on, on, ow 0, ow 0, ow 0, ow 0, oi 0, oi 0, oi 0, oi 0, ob false, on, on, oi 0, ob false, oi 0, oi 0, oi 0, oi 0, on, os nm, oi 0, oi 0]
theorem aggStG (kind x y z : Int) (b : OC) (last : Bool) (nm : ByteArray) : AggT Tryz.prog 125 (stG kind x y z b last nm).length := aggStmt

theorem nil_row {w : World} {b i : Nat} {t : TypeId} {v : Value} (h : Row oV w b t [on, on]) (hv : w.cell? ⟨b, i, none⟩ = some v) : v = .slice none 0 0 := by
  rw [h.cell?] at hv
  match i with
  | 0 => cases hv; rfl
  | 1 => cases hv; rfl
  | (k + 2) => cases hv
/-- a store into a box that held two nil slices leaves a program that lies elsewhere -/
theorem FP.result {w w' : World} {v : Value} {nm : ByteArray} {b : Nat} {t : TypeId} (h : FP w v nm) (hG : w.grownBy w' (some b)) (hr : Row oV w b t [on, on]) : FP w' v nm := by
  obtain ⟨sb, so, sc, bb, bo, bc, ib, io, ic, rfl, hcap, ⟨h1, l1⟩, ⟨h2, l2⟩, h3, l3⟩ := h
  have n1 : some sb ≠ some b := fun e => by
    injection e with e; subst e
    have := nil_row hr (h1 0 (by rw [stC_length]; omega))
    cases this
  have n2 : some bb ≠ some b := fun e => by
    injection e with e; subst e
    have := nil_row hr h2
    cases this
  have n3 : some ib ≠ some b := fun e => by
    injection e with e; subst e
    have := nil_row hr h3
    cases this
  exact ⟨sb, so, sc, bb, bo, bc, ib, io, ic, rfl, hcap, ⟨h1.grown hG l1 n1, Nat.lt_of_lt_of_le l1 hG.size⟩, ⟨(World.cell?_of_block (a := ⟨bb, bo, none⟩) (hG.block bb l2 n2)).trans h2, Nat.lt_of_lt_of_le l2 hG.size⟩, (World.cell?_of_block (a := ⟨ib, io, none⟩) (hG.block ib l3 n3)).trans h3, Nat.lt_of_lt_of_le l3 hG.size⟩
/-- an operation that gives a value in a world of its own -/
theorem value_w {P : Program} {ops : Array Oper} {rest : List Oper} {o : Oper} {a : Act} {w w' : World} {Q : Exit → Act → World → Prop} {u : Value} (op : Op) (hgd : o.guard = none) (ho : o.op = op) (hr : (execOp a.eval o).run P w = .ok (.value u) w') (hk : wpList P ops Q rest (a.put o.dst u) w') : wpList P ops Q (o :: rest) a w := by
  have _ := ho
  refine wpList_plain hgd fun K hK => ?_
  unfold Oper.wp
  rw [hr]
  exact hK _ _ hk

set_option maxHeartbeats 8000000 in
theorem small0 (w : World) :
    Calls Tryz.prog 28 #[.int .u8 0] w fun e w' => ∃ v, e = .returned v ∧ FP w' v ⟨#[120]⟩ ∧ Below w.heap.size w w' := by
  go_enter Tryz.func28, Tryz.ntmps28
  go_upto_region 1 with (fail)
  have hr0 : Row oV (w.alloc (.cells #[.slice none 0 0, .slice none 0 0] 63)) w.heap.size 63 [on, on] := Row.new _ _ rfl
  have hB0 : Below w.heap.size w (w.alloc (.cells #[.slice none 0 0, .slice none 0 0] 63)) := below_al (Below.refl _ _) (Nat.le_refl _) _
  generalize (w.alloc (.cells #[.slice none 0 0, .slice none 0 0] 63)) = W0 at *
  have hl0 := hr0.lt
  have hZ1 : Row oV (W0.alloc (.cells zStmtC 125)) W0.heap.size 125 (stC 0 0 ⟨#[]⟩ 0 0) := Row.new _ _ rfl
  obtain ⟨C1, HC1⟩ : ∃ C, Hid (C = ((stG 13 0 0 0 on false ⟨#[120]⟩ : List OC).map oV).toArray) := ⟨_, Lib.hid rfl⟩
  go_upto_region 2 with (first
    | ((with_reducible refine closed_w (u := .agg C1) (.build 125 #[(0, .const (.int .i64 13)), (15, .const (.string ⟨#[120]⟩))]) ?_ ?_ ?_ ?_); rfl; rfl; (have h := HC1.out; subst h; show _ = _; kernel_rfl))
    | ((with_reducible refine store_agg (f := oV) (l := stC 0 0 ⟨#[]⟩ 0 0) (l' := stG 13 0 0 0 on false ⟨#[120]⟩) (t := 125) (C := C1) aggStmt (.tmp 3) (.tmp 8) ?_ ?_ (W0.heap.size) ?_ ?_ ?_ hZ1 ?_ oV_one ?_); rfl; rfl; rfl; exact HC1.out; rfl; rfl; (intro W1 hs1 hG1 hz1)))
  have hB1 := below_row hB0 hG1
  replace hr0 := (hr0.alloc (.cells zStmtC 125)).grown hG1 (fun e => by injection e with e; have := hr0.lt; omega)
  have hx3 : w.heap.size < W0.heap.size := hl0
  clear hG1 hz1 hZ1 hl0 hB0
  generalize hn3 : W0.heap.size = n3 at *
  have hZ2 : Row oV (W1.alloc (.cells zStmtC 125)) W1.heap.size 125 (stC 0 0 ⟨#[]⟩ 0 0) := Row.new _ _ rfl
  obtain ⟨C2, HC2⟩ : ∃ C, Hid (C = ((stG 13 1 0 0 on false ⟨#[120]⟩ : List OC).map oV).toArray) := ⟨_, Lib.hid rfl⟩
  go_upto_region 3 with (first
    | ((with_reducible refine closed_w (u := .agg C2) (.build 125 #[(0, .const (.int .i64 13)), (15, .const (.string ⟨#[120]⟩)), (1, .const (.int .i64 1))]) ?_ ?_ ?_ ?_); rfl; rfl; (have h := HC2.out; subst h; show _ = _; kernel_rfl))
    | ((with_reducible refine store_agg (f := oV) (l := stC 0 0 ⟨#[]⟩ 0 0) (l' := stG 13 1 0 0 on false ⟨#[120]⟩) (t := 125) (C := C2) aggStmt (.tmp 4) (.tmp 9) ?_ ?_ (W1.heap.size) ?_ ?_ ?_ hZ2 ?_ oV_one ?_); rfl; rfl; rfl; exact HC2.out; rfl; rfl; (intro W2 hs2 hG2 hz2)))
  have hB2 := below_row hB1 hG2
  replace hr0 := (hr0.alloc (.cells zStmtC 125)).grown hG2 (fun e => by injection e with e; have := hr0.lt; omega)
  replace hs1 := (hs1.alloc (.cells zStmtC 125)).grown hG2 (fun e => by injection e with e; have := hs1.lt; omega)
  clear hG2 hz2 hZ2 hs2 hB1
  generalize W1.heap.size = n4 at *
  have hZ3 : Row oV (W2.alloc (.cells zStmtC 125)) W2.heap.size 125 (stC 0 0 ⟨#[]⟩ 0 0) := Row.new _ _ rfl
  obtain ⟨C3, HC3⟩ : ∃ C, Hid (C = ((stG 13 2 0 0 on false ⟨#[121]⟩ : List OC).map oV).toArray) := ⟨_, Lib.hid rfl⟩
  go_upto_region 4 with (first
    | ((with_reducible refine closed_w (u := .agg C3) (.build 125 #[(0, .const (.int .i64 13)), (15, .const (.string ⟨#[121]⟩)), (1, .const (.int .i64 2))]) ?_ ?_ ?_ ?_); rfl; rfl; (have h := HC3.out; subst h; show _ = _; kernel_rfl))
    | ((with_reducible refine store_agg (f := oV) (l := stC 0 0 ⟨#[]⟩ 0 0) (l' := stG 13 2 0 0 on false ⟨#[121]⟩) (t := 125) (C := C3) aggStmt (.tmp 5) (.tmp 10) ?_ ?_ (W2.heap.size) ?_ ?_ ?_ hZ3 ?_ oV_one ?_); rfl; rfl; rfl; exact HC3.out; rfl; rfl; (intro W3 hs3 hG3 hz3)))
  have hB3 := below_row hB2 hG3
  replace hr0 := (hr0.alloc (.cells zStmtC 125)).grown hG3 (fun e => by injection e with e; have := hr0.lt; omega)
  replace hs1 := (hs1.alloc (.cells zStmtC 125)).grown hG3 (fun e => by injection e with e; have := hs1.lt; omega)
  clear hG3 hz3 hZ3 hs3 hB2
  generalize W2.heap.size = n5 at *
  have hB3b : Below w.heap.size w (W3.alloc (.cells #[.int .u8 97] 5)) := below_al hB3 (Nat.le_refl _) _
  replace hr0 := hr0.alloc (.cells #[.int .u8 97] 5)
  replace hs1 := hs1.alloc (.cells #[.int .u8 97] 5)
  have hZ4 : Row oV ((W3.alloc (.cells #[.int .u8 97] 5)).alloc (.cells zStmtC 125)) (W3.heap.size + 1) 125 (stC 0 0 ⟨#[]⟩ 0 0) := by rw [show (W3.heap.size + 1) = (W3.alloc (.cells #[.int .u8 97] 5)).heap.size by simp]; exact Row.new _ _ rfl
  obtain ⟨C4, HC4⟩ : ∃ C, Hid (C = ((stG 3 0 1 2 (osl W3.heap.size 1 1) false ⟨#[]⟩ : List OC).map oV).toArray) := ⟨_, Lib.hid rfl⟩
  go_upto_region 5 with (first
    | ((with_reducible refine closed_w (u := .agg C4) (.build 125 #[(0, .const (.int .i64 3)), (2, .const (.int .i64 1)), (3, .const (.int .i64 2)), (7, .tmp 11)]) ?_ ?_ ?_ ?_); rfl; rfl; (have h := HC4.out; subst h; show _ = _; kernel_rfl))
    | ((with_reducible refine store_agg (f := oV) (l := stC 0 0 ⟨#[]⟩ 0 0) (l' := stG 3 0 1 2 (osl W3.heap.size 1 1) false ⟨#[]⟩) (t := 125) (C := C4) aggStmt (.tmp 6) (.tmp 12) ?_ ?_ ((W3.heap.size + 1)) ?_ ?_ ?_ hZ4 ?_ oV_one ?_); rfl; rfl; rfl; exact HC4.out; rfl; rfl; (intro W4 hs4 hG4 hz4)))
  have ebx : (W3.heap.size + 1) = (W3.alloc (.cells #[.int .u8 97] 5)).heap.size := by simp
  rw [ebx] at hG4
  have hB4 := below_row hB3b hG4
  replace hr0 := (hr0.alloc (.cells zStmtC 125)).grown hG4 (fun e => by injection e with e; have := hr0.lt; omega)
  replace hs1 := (hs1.alloc (.cells zStmtC 125)).grown hG4 (fun e => by injection e with e; have := hs1.lt; omega)
  clear hG4 hz4 hZ4 hB3 hB3b
  generalize hn11 : W3.heap.size = n11 at *
  clear ebx
  have hZ5 : Row oV (W4.alloc (.cells zStmtC 125)) W4.heap.size 125 (stC 0 0 ⟨#[]⟩ 0 0) := Row.new _ _ rfl
  obtain ⟨C5, HC5⟩ : ∃ C, Hid (C = ((stG 3 0 1 2 (osl n11 1 1) false ⟨#[]⟩ : List OC).map oV).toArray) := ⟨_, Lib.hid rfl⟩
  go_wp2_with (first
    | ((with_reducible refine load_agg (f := oV) (l := stG 3 0 1 2 (osl n11 1 1) false ⟨#[]⟩) (C := C5) (aggStG _ _ _ _ _ _ _) (.tmp 6) ?_ ?_ (n11 + 1) 0 ?_ hs4.at HC5.out ?_); rfl; rfl; rfl)
    | ((with_reducible refine store_agg (f := oV) (l := stC 0 0 ⟨#[]⟩ 0 0) (l' := stG 3 0 1 2 (osl n11 1 1) false ⟨#[]⟩) (t := 125) (C := C5) aggStmt (.tmp 7) (.tmp 13) ?_ ?_ (W4.heap.size) ?_ ?_ ?_ hZ5 ?_ oV_one ?_); rfl; rfl; rfl; exact HC5.out; rfl; rfl; (intro W5 hs5 hG5 hz5; refine Pause.back ?_)))
  have hB5 := below_row hB4 hG5
  have hx7 : n3 < W4.heap.size ∧ w.heap.size < W4.heap.size := ⟨hs1.lt, hr0.lt⟩
  replace hr0 := (hr0.alloc (.cells zStmtC 125)).grown hG5 (fun e => by injection e with e; have := hr0.lt; omega)
  replace hs1 := (hs1.alloc (.cells zStmtC 125)).grown hG5 (fun e => by injection e with e; have := hs1.lt; omega)
  clear hG5 hz5 hZ5 hB4 hs4
  generalize W4.heap.size = n7 at *
  refine Pause.out ?_
  have f8 := hs5.frozen 8
  have c8 : W5.cell? ⟨n7, 8, none⟩ = some (.bool false) := by rw [hs5.cell?]; rfl
  go_upto_region 9 with (fail)
  have hB6 := below_set hB5 (b := n7) 8 (by omega) (.bool true)
  replace hr0 := hr0.set_other (b' := n7) (by omega) 8 (.bool true)
  have hs6 : Row oV (W5.setCell ⟨n7, 8, none⟩ (.bool true)) n3 125 (stC 13 0 ⟨#[120]⟩ 0 0) := hs1.set_other (b' := n7) (by omega) 8 (.bool true)
  clear f8 c8 hs5 hs1 HC1 HC2 HC3 HC4 HC5
  generalize (W5.setCell ⟨n7, 8, none⟩ (.bool true)) = W6 at *
  obtain ⟨C, HC⟩ : ∃ C, Hid (C = ((stC 13 0 ⟨#[120]⟩ 0 0).map oV).toArray) := ⟨_, Lib.hid rfl⟩
  have hg : Row oV (W6.alloc (.cells C 125)) W6.heap.size 125 (stC 13 0 ⟨#[120]⟩ 0 0) := Row.new _ _ (by rw [HC.out])
  have hBa := below_al hB6 (Nat.le_refl _) (.cells C 125)
  have hra := hr0.alloc (.cells C 125)
  go_wp2_with (first
    | ((with_reducible refine load_agg (f := oV) (l := stC 13 0 ⟨#[120]⟩ 0 0) (C := C) (aggStmtL _ _ _ _ _) (.tmp 3) ?_ ?_ n3 0 ?_ hs6.at HC.out ?_); rfl; rfl; rfl)
    | ((with_reducible refine value_w (u := .slice (some ⟨W6.heap.size, 0, none⟩) 1 1) (w' := W6.alloc (.cells C 125)) (.buildSlice 60 1 #[(0, .tmp 19)]) ?_ ?_ ?_ ?_); rfl; rfl; (have h := HC.out; subst h; show _ = _; kernel_rfl)))
  refine (line1 _ W6.heap.size 1 (Nat.le_refl _) ⟨#[120]⟩ hg).mono ?_
  rintro e W7 ⟨v, rfl, hp, hG7⟩
  have hB7 : Below w.heap.size w W7 := hBa.grown hG7 hBa.size (fun k e => by cases e; exact hB6.size)
  have hr7 := hra.grown hG7 (fun e => by injection e with e; have := hr0.lt; omega)
  have HP := Lib.hid hp
  obtain ⟨sb, so, sc, bb, bo, bc, ib, io, ic, rfl, _⟩ := hp
  clear hr0 hs6 hB6 hg hBa hra hG7
  go_wp2_with (first
    | ((with_reducible refine store_agg (f := oV) (l := [on, on]) (l' := [⟨.slice (some ⟨sb, so, none⟩) 1 sc, rfl⟩, ⟨.slice (some ⟨bb, bo, none⟩) 1 bc, rfl⟩]) (t := 63) (C := #[.slice (some ⟨sb, so, none⟩) 1 sc, .slice (some ⟨bb, bo, none⟩) 1 bc]) aggProgram (.tmp 2) (.tmp 21) ?_ ?_ w.heap.size ?_ ?_ ?_ hr7 ?_ oV_one ?_); rfl; rfl; rfl; rfl; rfl; rfl; (intro Y hsY hGY hzY)))
  refine bodyPost_ret (v := .agg #[.slice (some ⟨sb, so, none⟩) 1 sc, .slice (some ⟨bb, bo, none⟩) 1 bc]) (results_agg (f := oV) (l := [⟨.slice (some ⟨sb, so, none⟩) 1 sc, rfl⟩, ⟨.slice (some ⟨bb, bo, none⟩) 1 bc, rfl⟩]) rfl _ aggProgram w.heap.size 0 rfl hsY.at) rfl ?_
  exact ⟨_, rfl, HP.out.result hGY hr7, hB7.grown hGY hB7.size (fun k e => by cases e; exact Nat.le_refl _)⟩
end Go.Proofs.YtgflelodpcgmbaaGreatDoor
