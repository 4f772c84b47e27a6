/- The walk through a program of one statement that appends a field. -/
import Derived.Test.YtgflelodpcgmbaaGreatDoorMWalk2
import Derived.Laws.EntriesVeiled
import Derived.WideLaws
import Derived.Test.YtgflelodpcgmbaaGreatDoorMTree
namespace Go.Proofs.YtgflelodpcgmbaaGreatDoor
open Go.RowKit Mem
set_option maxRecDepth 100000

theorem aggReport : AggT Tryz.prog 147 3 := ⟨fun _ => by kernel_rfl, fun _ => by kernel_rfl⟩

set_option maxHeartbeats 8000000 in
theorem rWalk1 (w : World) (v : Value) (nm : ByteArray) (hp : FP w v nm) :
    Calls Tryz.prog 79 #[v] w fun e w' => ∃ q, e = .returned (.agg #[.slice (some ⟨q, 0, none⟩) 1 1, .int .i64 (-1), .int .i64 0]) ∧ Below w.heap.size w w' := by
  have hmf : ∀ (fn : Fn) (first cap : Array Value) (w : World), (Instr.makeFunc fn first cap).run Tryz.prog w = .ok (.func fn first cap) w := fun _ _ _ _ => rfl
  have hm : ∀ w, (Instr.makeSlice 24 (.int .i64 1) (.int .i64 1)).run Tryz.prog w = .ok (.slice (some ⟨w.heap.size, 0, none⟩) 1 1) (w.alloc (.cells #[.bool false] 4)) := fun w => by first | rfl | kernel_rfl
  obtain ⟨sb, so, sc, bb, bo, bc, ib, io, ic, rfl, ⟨k1, k2, k3⟩, ⟨h1, l1⟩, ⟨h2, l2⟩, h3, l3⟩ := hp
  have H1 := Lib.hid h1
  have H2 := Lib.hid h2
  have H3 := Lib.hid h3
  clear h1 h2 h3
  go_enter Tryz.func79, Tryz.ntmps79
  go_upto_region 6 with (fail)
  obtain ⟨W, hW, hB, hsz, g0, g1, g2, g3, g4, g5, g6⟩ : ∃ W, (((((((w.alloc (.cells #[.slice (some ⟨sb, so, none⟩) 1 sc, .slice (some ⟨bb, bo, none⟩) 1 bc] 63)).alloc (.cells #[.slice none 0 0, .int .i64 0, .int .i64 0] 147)).alloc (.cells #[.bool false] 4)).alloc (.cells #[.slice (some ⟨w.heap.size + 1 + 1, 0, none⟩) 1 1, .int .i64 (-1), .int .i64 0] 147)).alloc (.cells #[.func (.func 100) #[] #[.pointer (some ⟨w.heap.size + 1 + 1 + 1, 0, none⟩)]] 181)).alloc (.cells #[.func (.func 103) #[] #[.pointer (some ⟨w.heap.size, 0, none⟩), .pointer (some ⟨w.heap.size + 1 + 1 + 1 + 1 + 1 + 1, 0, none⟩)]] 182)).alloc (.cells #[.func (.func 101) #[] #[.pointer (some ⟨w.heap.size, 0, none⟩), .pointer (some ⟨w.heap.size + 1 + 1 + 1, 0, none⟩), .pointer (some ⟨w.heap.size + 1 + 1 + 1 + 1, 0, none⟩), .pointer (some ⟨w.heap.size + 1 + 1 + 1 + 1 + 1, 0, none⟩)]] 182)) = W ∧ Below w.heap.size w W ∧ W.heap.size = w.heap.size + 7 ∧ W.heap[w.heap.size]? = some (.cells #[.slice (some ⟨sb, so, none⟩) 1 sc, .slice (some ⟨bb, bo, none⟩) 1 bc] 63 (0, 0)) ∧ W.heap[w.heap.size + 1]? = some (.cells #[.slice none 0 0, .int .i64 0, .int .i64 0] 147 (0, 0)) ∧ W.heap[w.heap.size + 1 + 1]? = some (.cells #[.bool false] 4 (0, 0)) ∧ W.heap[w.heap.size + 1 + 1 + 1]? = some (.cells #[.slice (some ⟨w.heap.size + 1 + 1, 0, none⟩) 1 1, .int .i64 (-1), .int .i64 0] 147 (0, 0)) ∧ W.heap[w.heap.size + 1 + 1 + 1 + 1]? = some (.cells #[.func (.func 100) #[] #[.pointer (some ⟨w.heap.size + 1 + 1 + 1, 0, none⟩)]] 181 (0, 0)) ∧ W.heap[w.heap.size + 1 + 1 + 1 + 1 + 1]? = some (.cells #[.func (.func 103) #[] #[.pointer (some ⟨w.heap.size, 0, none⟩), .pointer (some ⟨w.heap.size + 1 + 1 + 1 + 1 + 1 + 1, 0, none⟩)]] 182 (0, 0)) ∧ W.heap[w.heap.size + 1 + 1 + 1 + 1 + 1 + 1]? = some (.cells #[.func (.func 101) #[] #[.pointer (some ⟨w.heap.size, 0, none⟩), .pointer (some ⟨w.heap.size + 1 + 1 + 1, 0, none⟩), .pointer (some ⟨w.heap.size + 1 + 1 + 1 + 1, 0, none⟩), .pointer (some ⟨w.heap.size + 1 + 1 + 1 + 1 + 1, 0, none⟩)]] 182 (0, 0)) := by
    refine ⟨_, rfl, ?_, by simp, ?_, ?_, ?_, ?_, ?_, ?_, ?_⟩
    · exact (((((((Below.refl _ _).alloc (Nat.le_refl _) _).alloc (by simp) _).alloc (by simp; omega) _).alloc (by simp; omega) _).alloc (by simp; omega) _).alloc (by simp; omega) _).alloc (by simp; omega) _
    all_goals repeat (first | exact heap_new' _ _ _ (by (try simp) <;> omega) | refine (Below.heap_alloc _ _ _ (by (try simp) <;> omega)).trans ?_)
  rw [hW]
  clear hW
  have HS : Hid (∀ X, W.grownBy X (some (w.heap.size + 1 + 1)) → X.cell? ⟨w.heap.size + 1 + 1 + 1 + 1 + 1, 0, none⟩ = some (.func (.func 103) #[] #[.pointer (some ⟨w.heap.size, 0, none⟩), .pointer (some ⟨w.heap.size + 1 + 1 + 1 + 1 + 1 + 1, 0, none⟩)]) ∧ w.heap.size + 7 ≤ X.heap.size ∧ Below w.heap.size w X) := Lib.hid fun X hX => by
    refine ⟨?_, by rw [← hsz]; exact hX.size, hB.grown hX hB.size (fun k e => by cases e; exact Nat.le_succ_of_le (Nat.le_succ _))⟩
    rw [World.cell?_of_block (a := ⟨w.heap.size + 1 + 1 + 1 + 1 + 1, 0, none⟩) (hX.block (w.heap.size + 1 + 1 + 1 + 1 + 1) (by omega) (by intro e; injection e with e; omega))]
    unfold World.cell?
    rw [g5]
    rfl
  have HG := Lib.hid (And.intro hB (And.intro hsz (And.intro g0 (And.intro g1 (And.intro g2 (And.intro g3 (And.intro g5 g6)))))))
  clear hB hsz g0 g1 g2 g3 g4 g5 g6
  obtain ⟨CP, HCP⟩ : ∃ CP, Hid (CP = (pl0.map Value.bool).toArray) := ⟨_, Lib.hid rfl⟩
  refine wp_region_held_drew (S := fun X => W.grownBy X (some (w.heap.size + 1 + 1))) rfl (grown_drew (grown_of_below (Below.refl _ _) _)) fun hS => ?_
  refine takeD (i := 0) (d := 15) (v := .func (.func 103) #[] #[.pointer (some ⟨w.heap.size, 0, none⟩), .pointer (some ⟨w.heap.size + 1 + 1 + 1 + 1 + 1 + 1, 0, none⟩)]) rfl rfl (by kernel_rfl) (by kernel_rfl) (by kernel_rfl) (fun c a w h => h) (.inl ⟨by first | rfl | kernel_rfl, fun W' h => by have q0 := (HS.out W' h).1; go_simp⟩) hS ?_
  simp only [List.setIfInBounds_toArray, List.set_cons_succ, List.set_cons_zero]
  refine wpAnyH_ready (rs := [1]) (by kernel_rfl) (by simp) (AllReadyH.cons rfl (fun K' hK => ?_) AllReadyH.nil)
  have hS1 := hS.andThen (grown_of_below ((Below.refl W.drew.heap.size W.drew).alloc (Nat.le_refl _) (.cells #[.int .i64 0] 3)) (some (w.heap.size + 1 + 1))) (fun j e => .inr e)
  refine valueD (d := 16) (v := .slice (some ⟨W.drew.heap.size, 0, none⟩) 1 1) (w' := W.drew.alloc (.cells #[.int .i64 0] 3)) rfl rfl (by first | rfl | kernel_rfl) ?_
  refine hK.out _ _ hS1 fun _ => ?_
  clear hK
  simp only [List.setIfInBounds_toArray, List.set_cons_succ, List.set_cons_zero]
  refine wpAnyH_ready (rs := [2]) (by kernel_rfl) (by simp) (AllReadyH.cons rfl (fun K' hK => ?_) AllReadyH.nil)
  refine callD (d := 17) (g := 80) (args := #[.slice (some ⟨W.drew.heap.size, 0, none⟩) 1 1, .slice none 0 0]) rfl rfl (by first | kernel_rfl | (simp [execOp, resolve, invoke, Act.eval]) | go_simp) ?_
  refine (rOf0 _ W.drew.heap.size 0 1 (by unfold World.cell?; rw [World.alloc_heap_new]; rfl) (by simp)).mono ?_
  rintro e W2 ⟨C2, rfl, HC2, hB2⟩
  have hS2 := hS1.andThen (grown_of_below hB2 (some (w.heap.size + 1 + 1))) (fun j e => .inr e)
  have hB3 : Below W.heap.size W W2 := ((Below.refl W.heap.size W).drew.alloc (Nat.le_refl _) (.cells #[.int .i64 0] 3)).trans (hB2.mono (by simp))
  clear hB2 hS hS1
  refine ⟨_, rfl, hK.out _ _ hS2 fun _ => ?_⟩
  clear hK
  simp only [List.setIfInBounds_toArray, List.set_cons_succ, List.set_cons_zero]
  refine takeD (i := 3) (d := 18) (v := .agg CP) rfl rfl (by kernel_rfl) (by kernel_rfl) (by kernel_rfl) (fun c a w h => h) (yieldsIf_op rfl (fun w => by rw [HC2.out, HCP.out]; kernel_rfl)) hS2 ?_
  simp only [List.setIfInBounds_toArray, List.set_cons_succ, List.set_cons_zero]
  refine wpAnyH_ready (rs := [4]) (by kernel_rfl) (by simp) (AllReadyH.cons rfl (fun K' hK => ?_) AllReadyH.nil)
  obtain ⟨hB, hsz, g0, g1, g2, g3, g5, g6⟩ := HG.out
  have hB4 : Below w.heap.size w W2 := hB.trans (hB3.mono hB.size)
  have cc : ∀ (b i : Nat) (u : Value), b < w.heap.size + 7 → W.cell? ⟨b, i, none⟩ = some u → W2.cell? ⟨b, i, none⟩ = some u := fun b i u hb h => (hB3.cell (p := ⟨b, i, none⟩) (by rw [hsz]; exact hb)).trans h
  have hl : ∀ b, b < w.heap.size + 7 → b < W2.heap.size := fun b hb => Nat.lt_of_lt_of_le hb (by rw [← hsz]; exact hB3.size)
  refine callD (d := 19) (g := 103) (args := #[.int .i64 0, .agg CP, .pointer none, .pointer (some ⟨w.heap.size, 0, none⟩), .pointer (some ⟨w.heap.size + 1 + 1 + 1 + 1 + 1 + 1, 0, none⟩)]) rfl rfl (by first | kernel_rfl | (simp [execOp, resolve, invoke, Act.eval]) | go_simp) ?_
  refine (rBlk0 W2 nm CP HCP w.heap.size (w.heap.size + 1 + 1 + 1) (w.heap.size + 1 + 1) (w.heap.size + 1 + 1 + 1 + 1) (w.heap.size + 1 + 1 + 1 + 1 + 1) sb so sc bb bo bc ib io ic (w.heap.size + 1 + 1 + 1 + 1 + 1 + 1)
    (cc _ _ _ (by omega) (by unfold World.cell?; rw [g0]; rfl)) (hl _ (by omega)) (H1.out.below hB4 l1) (hl _ (by omega))
    (cc _ _ _ (by omega) (by unfold World.cell?; rw [g0]; rfl)) ((hB4.cell (p := ⟨bb, bo, none⟩) l2).trans H2.out) (hl _ (by omega)) ((hB4.cell (p := ⟨ib, io, none⟩) l3).trans H3.out) (hl _ (by omega))
    (cc _ _ _ (by omega) (by unfold World.cell?; rw [g3]; rfl)) (hl _ (by omega)) (cc _ _ _ (by omega) (by unfold World.cell?; rw [g2]; rfl)) ((hB3.frozen (p := ⟨w.heap.size + 1 + 1, 0, none⟩) (by rw [hsz]; show w.heap.size + 1 + 1 < _; omega)).trans (by unfold World.frozen?; rw [g2]; rfl)) (hl _ (by omega))
    (cc _ _ _ (by omega) (by unfold World.cell?; rw [g5]; rfl)) (hl _ (by omega)) (by omega) (cc _ _ _ (by omega) (by unfold World.cell?; rw [g6]; rfl)) (hl _ (by omega))).mono ?_
  rintro e W5 ⟨C5, rfl, HC5, hG5⟩
  have hS5 := hS2.andThen hG5 (fun j e => .inr e)
  refine ⟨_, rfl, hK.out _ _ hS5 fun _ => ?_⟩
  clear hK hG5 hB3 hB4 cc hl hS2
  simp only [List.setIfInBounds_toArray, List.set_cons_succ, List.set_cons_zero]
  refine wpAnyH_done (by kernel_rfl) ?_ _
  have x1 := (hS5.block (w.heap.size + 1) (by omega) (by intro e; injection e with e; omega)).trans g1
  have x3 := (hS5.block (w.heap.size + 1 + 1 + 1) (by omega) (by intro e; injection e with e; omega)).trans g3
  have hb5 := (HS.out _ hS5).2.2
  clear hS5 hB hsz g0 g1 g2 g3 g5 g6
  have hL : Row oV W5 (w.heap.size + 1 + 1 + 1) 147 [⟨.slice (some ⟨w.heap.size + 1 + 1, 0, none⟩) 1 1, rfl⟩, oi (-1), oi 0] := x3
  have hZ : Row oV W5 (w.heap.size + 1) 147 [on, oi 0, oi 0] := x1
  clear x1 x3
  obtain ⟨CR, HCR⟩ : ∃ CR, Hid (CR = (([⟨.slice (some ⟨w.heap.size + 1 + 1, 0, none⟩) 1 1, rfl⟩, oi (-1), oi 0] : List OC).map oV).toArray) := ⟨_, Lib.hid rfl⟩
  have hw1 : w.heap.size + 1 ≤ W5.heap.size := Nat.le_of_lt hZ.lt
  go_wp2_with (first
    | ((with_reducible refine load_agg (f := oV) (l := [⟨.slice (some ⟨w.heap.size + 1 + 1, 0, none⟩) 1 1, rfl⟩, oi (-1), oi 0]) aggReport (.tmp 3) ?_ ?_ (w.heap.size + 1 + 1 + 1) 0 ?_ hL.at HCR.out ?_); rfl; rfl; rfl)
    | ((with_reducible refine store_agg (f := oV) (l := [on, oi 0, oi 0]) (l' := [⟨.slice (some ⟨w.heap.size + 1 + 1, 0, none⟩) 1 1, rfl⟩, oi (-1), oi 0]) (t := 147) (C := CR) aggReport (.tmp 2) (.tmp 20) ?_ ?_ (w.heap.size + 1) ?_ ?_ ?_ hZ ?_ oV_one ?_); rfl; rfl; rfl; exact HCR.out; rfl; rfl; (intro W6 hs6 hG6 hz6)))
  refine bodyPost_ret (results_agg (f := oV) (l := [⟨.slice (some ⟨w.heap.size + 1 + 1, 0, none⟩) 1 1, rfl⟩, oi (-1), oi 0]) rfl _ aggReport (w.heap.size + 1) 0 rfl hs6.at) rfl ?_
  exact ⟨w.heap.size + 1 + 1, rfl, hb5.grown hG6 hb5.size (fun k e => by cases e; exact Nat.le_succ _)⟩
end Go.Proofs.YtgflelodpcgmbaaGreatDoor
/- slices.Sort and slices.Compact at one string. -/
namespace Go.Proofs.YtgflelodpcgmbaaGreatDoor
open Go.RowKit Mem
set_option maxRecDepth 100000

theorem len64_1 (w : World) : Calls Tryz.prog 129 #[.int .u64 1] w fun e w' => e = .returned (.int .i64 1) ∧ w' = w := by
  go_enter Tryz.func129, Tryz.ntmps129
  go_wp2
  go_ret
  exact ⟨by kernel_rfl, rfl⟩
theorem insertion1 (w : World) (b o c : Nat) : Calls Tryz.prog 119 #[.slice (some ⟨b, o, none⟩) 1 c, .int .i64 0, .int .i64 1] w fun e w' => e = .returned (.tuple #[]) ∧ w' = w := by
  go_enter Tryz.func119, Tryz.ntmps119
  go_wp2_with fail
  refine wp_loop_rounds 1 ?_
  refine rounds_step (n := 0) ?_
  go_wp2
  go_end0
  exact ⟨rfl, rfl⟩
theorem pdq1 (w : World) (b o c : Nat) : Calls Tryz.prog 104 #[.slice (some ⟨b, o, none⟩) 1 c, .int .i64 0, .int .i64 1, .int .i64 1] w fun e w' => e = .returned (.tuple #[]) ∧ w' = w := by
  go_enter Tryz.func104, Tryz.ntmps104
  go_wp2_with fail
  refine wp_loop_rounds 1 ?_
  refine rounds_step (n := 0) ?_
  go_wp2_with fail
  refine (insertion1 w b o c).mono ?_
  rintro e w' ⟨rfl, rfl⟩
  go_wp2
  exact bodyPost_ret (v := .tuple #[]) (by simp [results, Tryz.results104, go_sem]) rfl ⟨rfl, rfl⟩
theorem bitsLen1 (w : World) : Calls Tryz.prog 105 #[.int .u64 1] w fun e w' => e = .returned (.int .i64 1) ∧ w' = w := by
  go_enter Tryz.func105, Tryz.ntmps105
  go_wp2_with fail
  refine (len64_1 w).mono ?_
  rintro e w' ⟨rfl, rfl⟩
  go_wp2
  go_ret
  exact ⟨rfl, rfl⟩
theorem sort1 (w : World) (b o c : Nat) : Calls Tryz.prog 84 #[.slice (some ⟨b, o, none⟩) 1 c] w fun e w' => e = .returned (.tuple #[]) ∧ w' = w := by
  go_enter Tryz.func84, Tryz.ntmps84
  go_wp2_with fail
  refine (bitsLen1 w).mono ?_
  rintro e w' ⟨rfl, rfl⟩
  go_wp2_with fail
  refine (pdq1 _ b o c).mono ?_
  rintro e w' ⟨rfl, rfl⟩
  go_wp2
  go_end0
  exact ⟨rfl, rfl⟩
theorem compact1 (w : World) (b o c : Nat) : Calls Tryz.prog 85 #[.slice (some ⟨b, o, none⟩) 1 c] w fun e w' => e = .returned (.slice (some ⟨b, o, none⟩) 1 c) ∧ w' = w := by
  go_enter Tryz.func85, Tryz.ntmps85
  go_wp2
  go_ret
  exact ⟨rfl, rfl⟩
end Go.Proofs.YtgflelodpcgmbaaGreatDoor
/- resolve.Check at a program of one statement that appends a field. -/
namespace Go.Proofs.YtgflelodpcgmbaaGreatDoor
open Go.RowKit Mem
set_option maxRecDepth 100000

theorem aggInfo : AggT Tryz.prog 108 3 := ⟨fun _ => by kernel_rfl, fun _ => by kernel_rfl⟩
theorem eltS : Elt Tryz.prog 106 9 16 := Elt.mk' (z := .string ⟨#[]⟩) Tryz.underlying106 (by kernel_rfl) rfl
theorem sV_one (x : ByteArray) : (Value.string x).oneCell' = true := rfl

set_option maxHeartbeats 8000000 in
theorem rCheck1 (w : World) (v : Value) (nm : ByteArray) (HN : Hid (NameOK nm)) (hp : FP w v nm) :
    Calls Tryz.prog 54 #[v] w fun e w' => ∃ a b c : OC, e = .returned (.tuple #[.agg #[oV a, oV b, oV c], .int .i64 0]) ∧ Below w.heap.size w w' := by
  have HP := Lib.hid hp
  obtain ⟨sb, so, sc, bb, bo, bc, ib, io, ic, rfl, ⟨k1, k2, k3⟩, ⟨h1, l1⟩, ⟨h2, l2⟩, h3, l3⟩ := hp
  have H1 := Lib.hid h1
  clear h1 h2 h3 k2 k3
  go_enter Tryz.func54, Tryz.ntmps54
  go_upto_region 1 with (fail)
  obtain ⟨W, hW, hB, hs, g0, g1⟩ : ∃ W, (w.alloc (.cells #[.slice (some ⟨sb, so, none⟩) 1 sc, .slice (some ⟨bb, bo, none⟩) 1 bc] 63)).alloc (.cells #[.int .i64 0, .int .i64 0, .slice none 0 0] 108) = W ∧ Below w.heap.size w W ∧ w.heap.size + 2 ≤ W.heap.size ∧ W.heap[w.heap.size]? = some (.cells #[.slice (some ⟨sb, so, none⟩) 1 sc, .slice (some ⟨bb, bo, none⟩) 1 bc] 63 (0, 0)) ∧ W.heap[w.heap.size + 1]? = some (.cells #[.int .i64 0, .int .i64 0, .slice none 0 0] 108 (0, 0)) := by
    refine ⟨_, rfl, ((Below.refl _ _).alloc (Nat.le_refl _) _).alloc (by simp) _, by simp, ?_, ?_⟩
    all_goals repeat (first | exact heap_new' _ _ _ (by (try simp) <;> omega) | refine (Below.heap_alloc _ _ _ (by (try simp) <;> omega)).trans ?_)
  rw [hW]
  clear hW
  have HF : Hid (∀ X, Below (w.heap.size + 2) W X → X.cell? ⟨w.heap.size, 0, none⟩ = some (.slice (some ⟨sb, so, none⟩) 1 sc) ∧ X.cell? ⟨w.heap.size, 1, none⟩ = some (.slice (some ⟨bb, bo, none⟩) 1 bc) ∧ Row oV X (w.heap.size + 1) 108 [oi 0, oi 0, on] ∧ At oV X sb so (stC 13 0 nm (-1) (-1)) ∧ FP X (.agg #[.slice (some ⟨sb, so, none⟩) 1 sc, .slice (some ⟨bb, bo, none⟩) 1 bc]) nm ∧ Below w.heap.size w X ∧ w.heap.size + 2 ≤ X.heap.size) := Lib.hid fun X hX => by
    have hX0 : Below w.heap.size w X := hB.trans (hX.mono (Nat.le_add_right _ _))
    refine ⟨?_, ?_, (hX.block (w.heap.size + 1) (Nat.lt_succ_self _)).trans g1, H1.out.below hX0 l1, HP.out.below hX0, hX0, Nat.le_trans hs hX.size⟩
    · unfold World.cell?; rw [hX.block w.heap.size (by omega), g0]; rfl
    · unfold World.cell?; rw [hX.block w.heap.size (by omega), g0]; rfl
  have hX : Below (w.heap.size + 2) W W := Below.refl _ _
  clear hB g0 g1 H1 hs
  obtain ⟨p0, p1, _, _, hp, _, hs⟩ := HF.out W hX
  go_wp2_with fail
  refine (dValid1 W _ nm HN hp).mono ?_
  rintro e W1 ⟨rfl, hB1⟩
  replace hX := hX.trans (hB1.mono hs)
  clear p0 p1 hp hs hB1
  obtain ⟨p0, p1, _, _, hp, _, hs⟩ := HF.out W1 hX
  go_wp2_with fail
  refine (rBound1 W1 _ nm hp).mono ?_
  rintro e W2 ⟨rfl, hB2⟩
  replace hX := hX.trans (hB2.mono hs)
  clear p0 p1 hp hs hB2
  obtain ⟨p0, p1, _, _, hp, _, hs⟩ := HF.out W2 hX
  go_wp2_with fail
  refine (rWalk1 W2 _ nm hp).mono ?_
  rintro e W3 ⟨q, rfl, hB3⟩
  replace hX := hX.trans (hB3.mono hs)
  clear p0 p1 hp hs hB3
  go_upto_region 9 with (fail)
  obtain ⟨W4, hW4⟩ : ∃ W4, W3.alloc (.cells #[.slice (some ⟨q, 0, none⟩) 1 1, .int .i64 (-1), .int .i64 0] 147) = W4 := ⟨_, rfl⟩
  replace hX : Below (w.heap.size + 2) W W4 := by rw [← hW4]; exact hX.alloc (HF.out _ hX).2.2.2.2.2.2 _
  rw [hW4]
  clear hW4
  have hX4 := hX.alloc (HF.out _ hX).2.2.2.2.2.2 (.cells #[.int .i64 0] 3)
  go_wp2_with fail
  refine (rOf0 _ W4.heap.size 0 1 (by unfold World.cell?; rw [World.alloc_heap_new]; rfl) (by simp)).mono ?_
  rintro e W5 ⟨CV, rfl, HCV, hB5⟩
  replace hX := hX4.trans (hB5.mono (HF.out _ hX4).2.2.2.2.2.2)
  clear hX4 hB5
  have hs5 := (HF.out _ hX).2.2.2.2.2.2
  have hZ5 : Row Value.bool (W5.alloc (.cells zVarsC 150)) W5.heap.size 150 zVars := Row.new _ _ rfl
  have hX5 := hX.alloc hs5 (.cells zVarsC 150)
  go_upto_region 10 with (first
    | ((with_reducible refine store_agg (f := Value.bool) (l := zVars) (l' := vars0) (t := 150) (C := CV) (aggVarsL _ rfl) (.tmp 6) (.tmp 33) ?_ ?_ W5.heap.size ?_ ?_ ?_ hZ5 ?_ bV_one ?_); rfl; rfl; rfl; exact HCV.out; rfl; rfl; intro W6 hs6 hG6 hz6))
  replace hX := hX5.grown hG6 (Nat.le_trans hs5 (by simp)) (fun k e => by cases e; exact hs5)
  clear hX5 hZ5 hG6 hz6
  generalize W5.heap.size = n6 at hs6 hs5 ⊢
  have hlt6 := hs6.lt
  obtain ⟨W7, hW7, hs7, hX7, hN7⟩ : ∃ W7, W6.alloc (.cells #[.int .i64 0, .int .i64 0, .slice none 0 0] 108) = W7 ∧ Row oV W7 W6.heap.size 108 [oi 0, oi 0, on] ∧ Below (w.heap.size + 2) W W7 ∧ W6.heap.size < W7.heap.size := ⟨_, rfl, Row.new _ _ rfl, hX.alloc (HF.out _ hX).2.2.2.2.2.2 _, by simp⟩
  replace hs6 : Row Value.bool W7 n6 150 vars0 := by rw [← hW7]; exact hs6.alloc _
  have p0 : W7.cell? ⟨w.heap.size, 0, none⟩ = some (.slice (some ⟨sb, so, none⟩) 1 sc) := (HF.out _ hX7).1
  go_wp2_with fail
  clear p0
  have hs67 : w.heap.size + 2 ≤ W6.heap.size := (HF.out _ hX).2.2.2.2.2.2
  generalize W6.heap.size = n7 at hs7 hlt6 hN7 hs67 ⊢
  clear hW7
  replace hX := hX7
  clear hX7
  refine wp_loop_rounds 2 ?_
  refine rounds_step (n := 1) ?_
  obtain ⟨C1, HC1⟩ : ∃ C1, Hid (C1 = ((stC 13 0 nm (-1) (-1)).map oV).toArray) := ⟨_, Lib.hid rfl⟩
  have hA := (HF.out _ hX).2.2.2.1
  have hZ8 : Row oV (W7.alloc (.cells zStmtC 125)) W7.heap.size 125 (stC 0 0 ⟨#[]⟩ 0 0) := Row.new _ _ rfl
  have hX8 := hX.alloc (HF.out _ hX).2.2.2.2.2.2 (.cells zStmtC 125)
  go_upto_region 14 with (first
    | ((with_reducible refine load_agg (f := oV) (l := stC 13 0 nm (-1) (-1)) (aggStmtL _ _ _ _ _) (.tmp 39) ?_ ?_ sb so ?_ hA HC1.out ?_); rfl; rfl; rfl)
    | ((with_reducible refine store_agg (f := oV) (l := stC 0 0 ⟨#[]⟩ 0 0) (l' := stC 13 0 nm (-1) (-1)) (t := 125) (C := C1) (aggStmtL _ _ _ _ _) (.tmp 9) (.tmp 40) ?_ ?_ W7.heap.size ?_ ?_ ?_ hZ8 ?_ oV_one ?_); rfl; rfl; rfl; exact HC1.out; rfl; rfl; (intro W8 hs8 hG8 hz8)))
  replace hX := hX8.grown hG8 (by simp; omega) (fun k e => by cases e; omega)
  replace hs6 := (hs6.alloc _).grown hG8 (by intro e; injection e with e; omega)
  replace hs7 := (hs7.alloc _).grown hG8 (by intro e; injection e with e; omega)
  have hlt8 := hs8.lt
  have hn8 : n7 < W7.heap.size := hN7
  clear hA hZ8 hX8 hG8 hz8 hN7
  generalize W7.heap.size = n8 at hs8 hlt8 hn8 ⊢
  go_wp2_with (first
    | ((with_reducible refine load_agg (f := oV) (l := stC 13 0 nm (-1) (-1)) (aggStmtL _ _ _ _ _) (.tmp 9) ?_ ?_ n8 0 ?_ hs8.at HC1.out ?_); rfl; rfl; rfl))
  refine (rSets13 W8 nm C1 HC1).mono ?_
  rintro e W9 ⟨C9, rfl, HC9, hB9⟩
  replace hX := hX.trans (hB9.mono (HF.out _ hX).2.2.2.2.2.2)
  replace hs6 := hs6.below hB9 hs6.lt
  replace hs7 := hs7.below hB9 hs7.lt
  replace hs8 := hs8.below hB9 hs8.lt
  clear hB9 hlt8
  have hlt8 := hs8.lt
  have hZ9 : Row Value.bool (W9.alloc (.cells zVarsC 150)) W9.heap.size 150 zVars := Row.new _ _ rfl
  have hX9 := hX.alloc (HF.out _ hX).2.2.2.2.2.2 (.cells zVarsC 150)
  go_upto_region 15 with (first
    | ((with_reducible refine store_agg (f := Value.bool) (l := zVars) (l' := zVars) (t := 150) (C := C9) (aggVarsL _ rfl) (.tmp 10) (.tmp 44) ?_ ?_ W9.heap.size ?_ ?_ ?_ hZ9 ?_ bV_one ?_); rfl; rfl; rfl; exact HC9.out; rfl; rfl; intro Wa hsa hGa hza))
  replace hX := hX9.grown hGa (by simp; omega) (fun k e => by cases e; omega)
  replace hs6 := (hs6.alloc _).grown hGa (by intro e; injection e with e; omega)
  replace hs7 := (hs7.alloc _).grown hGa (by intro e; injection e with e; omega)
  replace hs8 := (hs8.alloc _).grown hGa (by intro e; injection e with e; omega)
  clear hZ9 hX9 hGa hza
  generalize W9.heap.size = na at hsa hlt8 ⊢
  refine region_headsT (S := fun X => Below (w.heap.size + 2) W X ∧ Row Value.bool X n6 150 vars0 ∧ Row oV X n7 108 [oi 0, oi 0, on] ∧ Row oV X n8 125 (stC 13 0 nm (-1) (-1)) ∧ Row Value.bool X na 150 zVars) 6 rfl (by kernel_rfl) ⟨hX.drew, hs6, hs7, hs8, hsa⟩ fun hS => ?_
  refine headsT_takeD (i := 0) (d := 46) (v := .agg CV) (by kernel_rfl) rfl rfl (by omega) (by kernel_rfl) (by kernel_rfl) (fun c a w h => h) (yieldsIf_load (f := Value.bool) (l := vars0) (aggVarsL _ rfl) (.tmp 6) rfl n6 0 rfl (fun W' h => h.2.1.at) HCV.out rfl) hS ?_
  simp only [List.setIfInBounds_toArray, List.set_cons_succ, List.set_cons_zero]
  refine headsT_takeD (i := 1) (d := 47) (v := .agg C1) (by kernel_rfl) rfl rfl (by omega) (by kernel_rfl) (by kernel_rfl) (fun c a w h => h) (yieldsIf_load (f := oV) (l := stC 13 0 nm (-1) (-1)) (aggStmtL _ _ _ _ _) (.tmp 9) rfl n8 0 rfl (fun W' h => h.2.2.2.1.at) HC1.out rfl) hS ?_
  simp only [List.setIfInBounds_toArray, List.set_cons_succ, List.set_cons_zero]
  refine headsT_takeD (i := 4) (d := 50) (v := .agg C9) (by kernel_rfl) rfl rfl (by omega) (by kernel_rfl) (by kernel_rfl) (fun c a w h => h) (yieldsIf_load (f := Value.bool) (l := zVars) (aggVarsL _ rfl) (.tmp 10) rfl na 0 rfl (fun W' h => h.2.2.2.2.at) HC9.out rfl) hS ?_
  simp only [List.setIfInBounds_toArray, List.set_cons_succ, List.set_cons_zero]
  refine headsT_ready (rs := [2]) (by kernel_rfl) (by simp) (AllReadyT.cons (by omega) rfl (fun K' hK => ?_) AllReadyT.nil)
  refine callD (d := 48) (g := 83) (args := #[.agg C1]) rfl rfl (by first | kernel_rfl | (simp [execOp, resolve, invoke, Act.eval]) | go_simp) ?_
  refine (rReads13 _ nm C1 HC1).mono ?_
  rintro e Wc ⟨CR, rfl, HCR, hBc⟩
  obtain rfl : CV = CR := HCV.out.trans HCR.out.symm
  replace hS := And.intro (hS.1.trans (hBc.mono (HF.out _ hS.1).2.2.2.2.2.2)) (And.intro (hS.2.1.below hBc hS.2.1.lt) (And.intro (hS.2.2.1.below hBc hS.2.2.1.lt) (And.intro (hS.2.2.2.1.below hBc hS.2.2.2.1.lt) (hS.2.2.2.2.below hBc hS.2.2.2.2.lt))))
  refine ⟨_, rfl, hK.out _ _ hS fun _ => ?_⟩
  clear hK hBc HCR
  simp only [List.setIfInBounds_toArray, List.set_cons_succ, List.set_cons_zero]
  refine headsT_ready (rs := [3]) (by kernel_rfl) (by simp) (AllReadyT.cons (by omega) rfl (fun K' hK => ?_) AllReadyT.nil)
  refine callD (d := 49) (g := 82) (args := #[.agg CV, .agg CV]) rfl rfl (by first | kernel_rfl | (simp [execOp, resolve, invoke, Act.eval]) | go_simp) ?_
  refine (rOr _ vars0 vars0 rfl rfl CV CV HCV HCV).mono ?_
  rintro e Wc ⟨Cc, rfl, HCc, hBc⟩
  obtain rfl : CV = Cc := HCV.out.trans HCc.out.symm
  replace hS := And.intro (hS.1.trans (hBc.mono (HF.out _ hS.1).2.2.2.2.2.2)) (And.intro (hS.2.1.below hBc hS.2.1.lt) (And.intro (hS.2.2.1.below hBc hS.2.2.1.lt) (And.intro (hS.2.2.2.1.below hBc hS.2.2.2.1.lt) (hS.2.2.2.2.below hBc hS.2.2.2.2.lt))))
  refine ⟨_, rfl, hK.out _ _ hS fun _ => ?_⟩
  clear hK hBc HCc
  simp only [List.setIfInBounds_toArray, List.set_cons_succ, List.set_cons_zero]
  refine headsT_ready (rs := [5]) (by kernel_rfl) (by simp) (AllReadyT.cons (by omega) rfl (fun K' hK => ?_) AllReadyT.nil)
  refine callD (d := 51) (g := 82) (args := #[.agg CV, .agg C9]) rfl rfl (by first | kernel_rfl | (simp [execOp, resolve, invoke, Act.eval]) | go_simp) ?_
  refine (rOr _ vars0 zVars rfl rfl CV C9 HCV HC9).mono ?_
  rintro e Wc ⟨Cc, rfl, HCc, hBc⟩
  obtain rfl : CV = Cc := HCV.out.trans HCc.out.symm
  replace hS := And.intro (hS.1.trans (hBc.mono (HF.out _ hS.1).2.2.2.2.2.2)) (And.intro (hS.2.1.below hBc hS.2.1.lt) (And.intro (hS.2.2.1.below hBc hS.2.2.1.lt) (And.intro (hS.2.2.2.1.below hBc hS.2.2.2.1.lt) (hS.2.2.2.2.below hBc hS.2.2.2.2.lt))))
  refine ⟨_, rfl, hK.out _ _ hS fun _ => ?_⟩
  clear hK hBc HCc
  simp only [List.setIfInBounds_toArray, List.set_cons_succ, List.set_cons_zero]
  refine headsT_tail (by kernel_rfl) ?_
  simp only [List.drop]
  obtain ⟨hX, hs6, hs7, hs8, _⟩ := hS
  go_wp2_with (first
    | ((with_reducible refine store_agg (f := Value.bool) (l := vars0) (l' := vars0) (t := 150) (C := CV) (aggVarsL _ rfl) (.tmp 6) (.tmp 51) ?_ ?_ n6 ?_ ?_ ?_ hs6 ?_ bV_one ?_); rfl; rfl; rfl; exact HCV.out; rfl; rfl; (intro Wd hsd hGd hzd); refine Pause.back ?_))
  have hs7s := hs7.lt
  replace hX := hX.grown hGd (by omega) (fun k e => by cases e; omega)
  replace hs7 := hs7.grown hGd (by intro e; injection e with e; omega)
  replace hs8 := hs8.grown hGd (by intro e; injection e with e; omega)
  clear hs6 hGd hzd
  have e0 : Wd.cell? ⟨n8, 0, none⟩ = some (.int .i64 13) := by rw [hs8.cell?]; rfl
  have e30 : Wd.cell? ⟨n8, 30, none⟩ = some (.string nm) := by rw [hs8.cell?]; rfl
  have e7 : Wd.cell? ⟨n7, 2, none⟩ = some (.slice none 0 0) := by rw [hs7.cell?]; rfl
  have hs7s := hs7.lt
  have hs8s := hs8.lt
  refine Pause.out ?_
  go_wp2_with (at_builtin; (with_reducible refine append_one eltS (.tmp 56) (.tmp 59) ?_ ?_ sV_one ?_ (Own.nil Wd Wd.heap.size 9) nm _ ?_ _ ?_ ?_ ?_ ?_ [nm] ?_ ?_); rfl; rfl; rfl; rfl; rfl; (simp); (simp); (exact Nat.le_refl _); rfl; (intro p3 c3 w3 hO3 hB3 hG3); (have e9 := (hB3.cell (p := ⟨n7, 2, none⟩) hs7s).trans e7); (have f9 := (hB3.frozen (p := ⟨n7, 2, none⟩) hs7s).trans (hs7.frozen 2)))
  obtain ⟨g3, rfl, hg3⟩ : ∃ g, p3 = some ⟨g, 0, none⟩ ∧ g < w3.heap.size := by
    rcases hO3.2 with ⟨_, h0⟩ | ⟨g, cap, cur, he, hb, hg, _⟩
    · simp at h0
    · injection he with he1 he2; exact ⟨g, he1, (Array.getElem?_eq_some_iff.1 hg).1⟩
  have hsL : Row oV (w3.setCell ⟨n7, 2, none⟩ (.slice (some ⟨g3, 0, none⟩) 1 c3)) n7 108 [oi 0, oi 0, ⟨.slice (some ⟨g3, 0, none⟩) 1 c3, rfl⟩] := (hs7.below hB3 hs7s).set 2 ⟨.slice (some ⟨g3, 0, none⟩) 1 c3, rfl⟩
  have hsV : Row Value.bool (w3.setCell ⟨n7, 2, none⟩ (.slice (some ⟨g3, 0, none⟩) 1 c3)) n6 150 vars0 := (hsd.below hB3 hsd.lt).set_other (by omega) _ _
  have hXn : Below (w.heap.size + 2) W (w3.setCell ⟨n7, 2, none⟩ (.slice (some ⟨g3, 0, none⟩) 1 c3)) := below_set (hX.trans (hB3.mono (HF.out _ hX).2.2.2.2.2.2)) 2 hs67 _
  clear e9 f9 hG3 hO3 hB3 hs8 hs7 hs7s hs8s e0 e30 e7 hsd
  generalize (w3.setCell ⟨n7, 2, none⟩ (.slice (some ⟨g3, 0, none⟩) 1 c3)) = Y at hsL hsV hXn ⊢
  have e7 : Y.cell? ⟨n7, 2, none⟩ = some (.slice (some ⟨g3, 0, none⟩) 1 c3) := by rw [hsL.cell?]; rfl
  have f7 := hsL.frozen 2
  refine rounds_step (n := 0) ?_
  go_wp2_with fail
  refine (sort1 Y g3 0 c3).mono ?_
  rintro e Y1 ⟨rfl, rfl⟩
  go_wp2_with fail
  refine (compact1 Y1 g3 0 c3).mono ?_
  rintro e Y2 ⟨rfl, rfl⟩
  have hsV2 : Row Value.bool (Y2.setCell ⟨n7, 2, none⟩ (.slice (some ⟨g3, 0, none⟩) 1 c3)) n6 150 vars0 := hsV.set_other (by omega) _ _
  have hsL2 : Row oV (Y2.setCell ⟨n7, 2, none⟩ (.slice (some ⟨g3, 0, none⟩) 1 c3)) n7 108 [oi 0, oi 0, ⟨.slice (some ⟨g3, 0, none⟩) 1 c3, rfl⟩] := hsL.set 2 ⟨.slice (some ⟨g3, 0, none⟩) 1 c3, rfl⟩
  have hX2 : Below (w.heap.size + 2) W (Y2.setCell ⟨n7, 2, none⟩ (.slice (some ⟨g3, 0, none⟩) 1 c3)) := below_set hXn 2 hs67 _
  clear hsL hsV hXn
  go_wp2_with (first
    | ((with_reducible refine load_agg (f := Value.bool) (l := vars0) (C := #[.bool true, .bool false, .bool false, .bool false, .bool false, .bool false, .bool false, .bool false, .bool false, .bool false, .bool false, .bool false, .bool false, .bool false, .bool false, .bool false]) (aggVarsL _ rfl) (.tmp 6) ?_ ?_ n6 0 ?_ hsV2.at ?_ ?_); rfl; rfl; rfl; rfl))
  generalize (Y2.setCell ⟨n7, 2, none⟩ (.slice (some ⟨g3, 0, none⟩) 1 c3)) = Z at hsL2 hX2 ⊢
  clear e7 f7 hsV2
  have f0 := hsL2.frozen 0
  have c0 : Z.cell? ⟨n7, 0, none⟩ = some (.int .i64 0) := by rw [hsL2.cell?]; rfl
  have x0 : ∀ w, (Instr.index 150 (.agg #[.bool true, .bool false, .bool false, .bool false, .bool false, .bool false, .bool false, .bool false, .bool false, .bool false, .bool false, .bool false, .bool false, .bool false, .bool false, .bool false]) (.int .i64 0)).run Tryz.prog w = .ok (.bool true) w := fun w => by first | rfl | kernel_rfl
  have x1 : ∀ w, (Instr.index 150 (.agg #[.bool true, .bool false, .bool false, .bool false, .bool false, .bool false, .bool false, .bool false, .bool false, .bool false, .bool false, .bool false, .bool false, .bool false, .bool false, .bool false]) (.int .i64 1)).run Tryz.prog w = .ok (.bool false) w := fun w => by first | rfl | kernel_rfl
  have x2 : ∀ w, (Instr.index 150 (.agg #[.bool true, .bool false, .bool false, .bool false, .bool false, .bool false, .bool false, .bool false, .bool false, .bool false, .bool false, .bool false, .bool false, .bool false, .bool false, .bool false]) (.int .i64 2)).run Tryz.prog w = .ok (.bool false) w := fun w => by first | rfl | kernel_rfl
  have x3 : ∀ w, (Instr.index 150 (.agg #[.bool true, .bool false, .bool false, .bool false, .bool false, .bool false, .bool false, .bool false, .bool false, .bool false, .bool false, .bool false, .bool false, .bool false, .bool false, .bool false]) (.int .i64 3)).run Tryz.prog w = .ok (.bool false) w := fun w => by first | rfl | kernel_rfl
  have x4 : ∀ w, (Instr.index 150 (.agg #[.bool true, .bool false, .bool false, .bool false, .bool false, .bool false, .bool false, .bool false, .bool false, .bool false, .bool false, .bool false, .bool false, .bool false, .bool false, .bool false]) (.int .i64 4)).run Tryz.prog w = .ok (.bool false) w := fun w => by first | rfl | kernel_rfl
  have x5 : ∀ w, (Instr.index 150 (.agg #[.bool true, .bool false, .bool false, .bool false, .bool false, .bool false, .bool false, .bool false, .bool false, .bool false, .bool false, .bool false, .bool false, .bool false, .bool false, .bool false]) (.int .i64 5)).run Tryz.prog w = .ok (.bool false) w := fun w => by first | rfl | kernel_rfl
  have x6 : ∀ w, (Instr.index 150 (.agg #[.bool true, .bool false, .bool false, .bool false, .bool false, .bool false, .bool false, .bool false, .bool false, .bool false, .bool false, .bool false, .bool false, .bool false, .bool false, .bool false]) (.int .i64 6)).run Tryz.prog w = .ok (.bool false) w := fun w => by first | rfl | kernel_rfl
  have x7 : ∀ w, (Instr.index 150 (.agg #[.bool true, .bool false, .bool false, .bool false, .bool false, .bool false, .bool false, .bool false, .bool false, .bool false, .bool false, .bool false, .bool false, .bool false, .bool false, .bool false]) (.int .i64 7)).run Tryz.prog w = .ok (.bool false) w := fun w => by first | rfl | kernel_rfl
  have x8 : ∀ w, (Instr.index 150 (.agg #[.bool true, .bool false, .bool false, .bool false, .bool false, .bool false, .bool false, .bool false, .bool false, .bool false, .bool false, .bool false, .bool false, .bool false, .bool false, .bool false]) (.int .i64 8)).run Tryz.prog w = .ok (.bool false) w := fun w => by first | rfl | kernel_rfl
  have x9 : ∀ w, (Instr.index 150 (.agg #[.bool true, .bool false, .bool false, .bool false, .bool false, .bool false, .bool false, .bool false, .bool false, .bool false, .bool false, .bool false, .bool false, .bool false, .bool false, .bool false]) (.int .i64 9)).run Tryz.prog w = .ok (.bool false) w := fun w => by first | rfl | kernel_rfl
  have x10 : ∀ w, (Instr.index 150 (.agg #[.bool true, .bool false, .bool false, .bool false, .bool false, .bool false, .bool false, .bool false, .bool false, .bool false, .bool false, .bool false, .bool false, .bool false, .bool false, .bool false]) (.int .i64 10)).run Tryz.prog w = .ok (.bool false) w := fun w => by first | rfl | kernel_rfl
  have x11 : ∀ w, (Instr.index 150 (.agg #[.bool true, .bool false, .bool false, .bool false, .bool false, .bool false, .bool false, .bool false, .bool false, .bool false, .bool false, .bool false, .bool false, .bool false, .bool false, .bool false]) (.int .i64 11)).run Tryz.prog w = .ok (.bool false) w := fun w => by first | rfl | kernel_rfl
  have x12 : ∀ w, (Instr.index 150 (.agg #[.bool true, .bool false, .bool false, .bool false, .bool false, .bool false, .bool false, .bool false, .bool false, .bool false, .bool false, .bool false, .bool false, .bool false, .bool false, .bool false]) (.int .i64 12)).run Tryz.prog w = .ok (.bool false) w := fun w => by first | rfl | kernel_rfl
  have x13 : ∀ w, (Instr.index 150 (.agg #[.bool true, .bool false, .bool false, .bool false, .bool false, .bool false, .bool false, .bool false, .bool false, .bool false, .bool false, .bool false, .bool false, .bool false, .bool false, .bool false]) (.int .i64 13)).run Tryz.prog w = .ok (.bool false) w := fun w => by first | rfl | kernel_rfl
  have x14 : ∀ w, (Instr.index 150 (.agg #[.bool true, .bool false, .bool false, .bool false, .bool false, .bool false, .bool false, .bool false, .bool false, .bool false, .bool false, .bool false, .bool false, .bool false, .bool false, .bool false]) (.int .i64 14)).run Tryz.prog w = .ok (.bool false) w := fun w => by first | rfl | kernel_rfl
  have x15 : ∀ w, (Instr.index 150 (.agg #[.bool true, .bool false, .bool false, .bool false, .bool false, .bool false, .bool false, .bool false, .bool false, .bool false, .bool false, .bool false, .bool false, .bool false, .bool false, .bool false]) (.int .i64 15)).run Tryz.prog w = .ok (.bool false) w := fun w => by first | rfl | kernel_rfl
  refine wp_loop_rounds 17 ?_
  refine rounds_step (n := 16) ?_
  go_wp2_with fail
  have hsL3 : Row oV (Z.setCell ⟨n7, 0, none⟩ (.int .i64 1)) n7 108 [oi 1, oi 0, ⟨.slice (some ⟨g3, 0, none⟩) 1 c3, rfl⟩] := hsL2.set 0 (oi 1)
  have hX3 : Below (w.heap.size + 2) W (Z.setCell ⟨n7, 0, none⟩ (.int .i64 1)) := below_set hX2 0 hs67 _
  generalize (Z.setCell ⟨n7, 0, none⟩ (.int .i64 1)) = Z3 at hsL3 hX3 ⊢
  clear hsL2 hX2 f0 c0 x0
  refine rounds_step (n := 15) ?_
  go_wp2_with fail
  refine rounds_step (n := 14) ?_
  go_wp2_with fail
  refine rounds_step (n := 13) ?_
  go_wp2_with fail
  refine rounds_step (n := 12) ?_
  go_wp2_with fail
  refine rounds_step (n := 11) ?_
  go_wp2_with fail
  refine rounds_step (n := 10) ?_
  go_wp2_with fail
  refine rounds_step (n := 9) ?_
  go_wp2_with fail
  refine rounds_step (n := 8) ?_
  go_wp2_with fail
  refine rounds_step (n := 7) ?_
  go_wp2_with fail
  refine rounds_step (n := 6) ?_
  go_wp2_with fail
  refine rounds_step (n := 5) ?_
  go_wp2_with fail
  refine rounds_step (n := 4) ?_
  go_wp2_with fail
  refine rounds_step (n := 3) ?_
  go_wp2_with fail
  refine rounds_step (n := 2) ?_
  go_wp2_with fail
  refine rounds_step (n := 1) ?_
  go_wp2_with fail
  refine rounds_step (n := 0) ?_
  obtain ⟨CI, HCI⟩ : ∃ CI, Hid (CI = (([oi 1, oi 0, ⟨.slice (some ⟨g3, 0, none⟩) 1 c3, rfl⟩] : List OC).map oV).toArray) := ⟨_, Lib.hid rfl⟩
  have hZ0 := (HF.out _ hX3).2.2.1
  have hX4 := (HF.out _ hX3).2.2.2.2.2.1
  go_wp2_with (first
    | ((with_reducible refine load_agg (f := oV) (l := [oi 1, oi 0, ⟨.slice (some ⟨g3, 0, none⟩) 1 c3, rfl⟩]) aggInfo (.tmp 7) ?_ ?_ n7 0 ?_ hsL3.at HCI.out ?_); rfl; rfl; rfl)
    | ((with_reducible refine store_agg (f := oV) (l := [oi 0, oi 0, on]) (l' := [oi 1, oi 0, ⟨.slice (some ⟨g3, 0, none⟩) 1 c3, rfl⟩]) (t := 108) (C := CI) aggInfo (.tmp 2) (.tmp 91) ?_ ?_ (w.heap.size + 1) ?_ ?_ ?_ hZ0 ?_ oV_one ?_); rfl; rfl; rfl; exact HCI.out; rfl; rfl; (intro Z5 hs5' hG5 hz5)))
  refine bodyPost_ret (v := .tuple #[.agg (([oi 1, oi 0, ⟨.slice (some ⟨g3, 0, none⟩) 1 c3, rfl⟩] : List OC).map oV).toArray, .int .i64 0]) (results_agg2 (f := oV) (l := [oi 1, oi 0, ⟨.slice (some ⟨g3, 0, none⟩) 1 c3, rfl⟩]) (t := 3) rfl _ aggInfo (w.heap.size + 1) 0 rfl hs5'.at) rfl ?_
  exact ⟨_, _, _, rfl, hX4.grown hG5 hX4.size (fun k e => by cases e; exact Nat.le_succ _)⟩
end Go.Proofs.YtgflelodpcgmbaaGreatDoor
