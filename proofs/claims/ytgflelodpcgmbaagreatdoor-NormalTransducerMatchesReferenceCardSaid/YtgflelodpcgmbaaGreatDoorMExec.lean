/- interp's block of a program of one statement that appends a field. -/
import Derived.Test.YtgflelodpcgmbaaGreatDoorMWalk
import Derived.Test.YtgflelodpcgmbaaGreatDoorMOwnIn
import Derived.WalkMore
namespace Go.Proofs.YtgflelodpcgmbaaGreatDoor
open Go.RowKit Mem
set_option maxRecDepth 100000

theorem iBlkNeg (w : World) (x : Value) : Calls Tryz.prog 159 #[x, .int .i64 (-1)] w fun e w' => e = .returned (.bool false) ∧ w' = w := by
  go_enter Tryz.func159, Tryz.ntmps159
  go_wp2
  go_step3
  go_wp2
  rw [Exit.noGoto_ret]
  go_ret
  exact ⟨rfl, rfl⟩

theorem Mem.Own.grown' {α : Type} {f : α → Value} {w w' : World} {base : Nat} {e : TypeId} {v : Value} {l : List α} (h : Mem.Own f w base e v l) {row : Option Nat} (hg : w.grownBy w' row)
    (hr : ∀ g, v.ownBlock = some g → some g ≠ row) : Mem.Own f w' base e v l := by
  refine ⟨h.1, ?_⟩
  rcases h.2 with hn | ⟨g, cap, cur, rfl, hbg, hc, rest⟩
  · exact .inl hn
  · exact .inr ⟨g, cap, cur, rfl, hbg, (hg.block g (Array.getElem?_eq_some_iff.1 hc).1 (hr g rfl)).trans hc, rest⟩
theorem Mem.Rd.grown' {α : Type} {f : α → Value} {w w' : World} {v : Value} {l : List α} (h : Rd f w v l) {row : Option Nat} (hg : w.grownBy w' row)
    (hr : ∀ g, v.ownBlock = some g → some g ≠ row) : Rd f w' v l := by
  rcases h with hn | ⟨b, o, cap, rfl, hc, ha, hlt⟩
  · exact .inl hn
  · exact .inr ⟨b, o, cap, rfl, hc, ha.grown hg hlt (hr b rfl), Nat.lt_of_lt_of_le hlt hg.size⟩
/-- the cells of an execution -/
def exC (sb so sc bb bo bc mb : Nat) (nv fs ts av : OC) : List OC := [⟨.slice (some ⟨sb, so, none⟩) 1 sc, rfl⟩, ⟨.slice (some ⟨bb, bo, none⟩) 1 bc, rfl⟩, ⟨.slice (some ⟨mb, 0, none⟩) 12 12, rfl⟩, nv, fs, ts, av]
theorem eltI : Elt Tryz.prog 119 3 8 := Elt.mk' (z := .int .i64 0) Tryz.underlying119 (by kernel_rfl) rfl
theorem iV_one (x : Int) : (Value.int .i64 x).oneCell' = true := rfl

set_option maxHeartbeats 8000000 in
theorem iBlk0 (w : World) (nm : ByteArray) (m : List UInt8) (u : Value) (base xb sb so sc bb bo bc mb ib io ic : Nat) (nv av : OC) (hx : Row oV w xb 196 (exC sb so sc bb bo bc mb nv on on av))
    (hA : At oV w sb so (stC 13 0 nm (-1) (-1))) (hb : w.cell? ⟨bb, bo, none⟩ = some (.slice (some ⟨ib, io, none⟩) 1 ic)) (hi : w.cell? ⟨ib, io, none⟩ = some (.int .i64 0))
    (hm0 : w.cell? ⟨mb, 0, none⟩ = some u) (lm : mb < w.heap.size) (hu : Mem.Own u8V w base 5 u m) (hmm : m.length ≤ 4096) (hbx : xb < base) (d4 : xb ≠ mb) :
    Calls Tryz.prog 159 #[.pointer (some ⟨xb, 0, none⟩), .int .i64 0] w fun e w' => e = .returned (.bool false) ∧ w.grownBy w' (some xb) ∧
      ∃ g c ts u', Row oV w' xb 196 (exC sb so sc bb bo bc mb nv ⟨.slice (some ⟨g, 0, none⟩) 1 c, rfl⟩ ts av) ∧ w'.cell? ⟨g, 0, none⟩ = some (.string nm) ∧ w'.cell? ⟨g, 1, none⟩ = some u' ∧ Rd u8V w' u' m ∧ g < w'.heap.size ∧ 1 ≤ c := by
  have HX := Lib.hid (And.intro hx (And.intro hA (And.intro hb (And.intro hi (And.intro hm0 hu)))))
  have c0 : w.cell? ⟨xb, 0, none⟩ = some (.slice (some ⟨sb, so, none⟩) 1 sc) := by rw [hx.cell?]; rfl
  have c1 : w.cell? ⟨xb, 1, none⟩ = some (.slice (some ⟨bb, bo, none⟩) 1 bc) := by rw [hx.cell?]; rfl
  have lx := hx.lt
  clear hx hm0 hu
  go_enter Tryz.func159, Tryz.ntmps159
  go_wp2_with fail
  go_step3
  go_wp2_with fail
  go_step3
  go_wp2_with fail
  refine wp_loop_rounds 2 ?_
  refine rounds_step (n := 1) ?_
  obtain ⟨C1, HC1⟩ : ∃ C1, Hid (C1 = ((stC 13 0 nm (-1) (-1)).map oV).toArray) := ⟨_, Lib.hid rfl⟩
  have hZ : Row oV (w.alloc (.cells zStmtC 125)) w.heap.size 125 (stC 0 0 ⟨#[]⟩ 0 0) := Row.new _ _ rfl
  go_upto_region 7 with (first
    | ((with_reducible refine load_agg (f := oV) (l := stC 13 0 nm (-1) (-1)) (aggStmtL _ _ _ _ _) (.tmp 30) ?_ ?_ sb so ?_ hA HC1.out ?_); rfl; rfl; rfl)
    | ((with_reducible refine store_agg (f := oV) (l := stC 0 0 ⟨#[]⟩ 0 0) (l' := stC 13 0 nm (-1) (-1)) (t := 125) (C := C1) (aggStmtL _ _ _ _ _) (.tmp 7) (.tmp 31) ?_ ?_ w.heap.size ?_ ?_ ?_ hZ ?_ oV_one ?_); rfl; rfl; rfl; exact HC1.out; rfl; rfl; (intro W8 hs8 hG8 hz8)))
  have hx8 : Row oV W8 xb 196 (exC sb so sc bb bo bc mb nv on on av) := (HX.out.1.alloc _).grown hG8 (by intro e; injection e with e; omega)
  have hB8 : Below w.heap.size w W8 := ((Below.refl _ _).alloc (Nat.le_refl _) (.cells zStmtC 125)).grown hG8 (by simp) (fun k e => by cases e; exact Nat.le_refl _)
  clear hZ hG8 hz8 c0 c1 hA hb hi
  have e5 : W8.cell? ⟨xb, 5, none⟩ = some (.slice none 0 0) := by rw [hx8.cell?]; rfl
  have lx8 := hx8.lt
  go_upto_region 8 with (at_builtin; (with_reducible refine append_one eltI (.tmp 36) (.tmp 38) ?_ ?_ iV_one ?_ (Own.nil W8 W8.heap.size 3) 0 _ ?_ _ ?_ ?_ ?_ ?_ [0] ?_ ?_); rfl; rfl; rfl; rfl; rfl; (simp); (simp); (exact Nat.le_refl _); rfl; (intro p3 c3 w3 hO3 hB3 hG3); (have e9 := (hB3.cell (p := ⟨xb, 5, none⟩) lx8).trans e5); (have f9 := (hB3.frozen (p := ⟨xb, 5, none⟩) lx8).trans (hx8.frozen 5)))
  have hx9 : Row oV (w3.setCell ⟨xb, 5, none⟩ (.slice p3 1 c3)) xb 196 (exC sb so sc bb bo bc mb nv on ⟨.slice p3 1 c3, rfl⟩ av) := (hx8.below hB3 lx8).set 5 ⟨.slice p3 1 c3, rfl⟩
  have hs9 : Row oV (w3.setCell ⟨xb, 5, none⟩ (.slice p3 1 c3)) w.heap.size 125 (stC 13 0 nm (-1) (-1)) := (hs8.below hB3 hs8.lt).set_other (by omega) _ _
  have hG9 : w.grownBy (w3.setCell ⟨xb, 5, none⟩ (.slice p3 1 c3)) (some xb) := grown_set (grown_of_below (hB8.trans (hB3.mono hB8.size)) _) 5 _
  generalize (w3.setCell ⟨xb, 5, none⟩ (.slice p3 1 c3)) = W9 at hx9 hs9 hG9 ⊢
  clear e5 e9 f9 hx8 hs8 hB8 hO3 hB3 hG3 lx8
  have e0 : W9.cell? ⟨w.heap.size, 0, none⟩ = some (.int .i64 13) := by rw [hs9.cell?]; rfl
  have e4 : W9.cell? ⟨xb, 4, none⟩ = some (.slice none 0 0) := by rw [hx9.cell?]; rfl
  go_upto_region 27 with (fail)
  have HH : Hid (∀ X, Below W9.heap.size W9 X → X.cell? ⟨xb, 4, none⟩ = some (.slice none 0 0) ∧ X.cell? ⟨xb, 2, none⟩ = some (.slice (some ⟨mb, 0, none⟩) 12 12) ∧ X.cell? ⟨w.heap.size, 30, none⟩ = some (.string nm) ∧ X.cell? ⟨w.heap.size, 1, none⟩ = some (.int .i64 0) ∧ X.cell? ⟨mb, 0, none⟩ = some u) := Lib.hid fun X hX => by
    have a1 := hx9.below hX hx9.lt
    have a2 := hs9.below hX hs9.lt
    refine ⟨by rw [a1.cell?]; rfl, by rw [a1.cell?]; rfl, by rw [a2.cell?]; rfl, by rw [a2.cell?]; rfl, ?_⟩
    exact (hX.cell (p := ⟨mb, 0, none⟩) (Nat.lt_of_lt_of_le lm hG9.size)).trans ((World.cell?_of_block (a := ⟨mb, 0, none⟩) (hG9.block mb lm (by intro e; injection e with e; exact d4 e.symm))).trans HX.out.2.2.2.2.1)
  have HU : Hid (Mem.Own u8V W9 base 5 u m) := Lib.hid (HX.out.2.2.2.2.2.grown' hG9 (fun g hg e => by injection e with e; have := (HX.out.2.2.2.2.2.lt g hg).1; omega))
  have HE := Lib.hid (And.intro hx9 (And.intro hs9 hG9))
  clear e0 e4 hx9 hs9 hG9
  refine region_headsT (S := fun X => Below W9.heap.size W9 X) 19 rfl (by kernel_rfl) (Below.refl _ _).drew fun hS => ?_
  refine headsT_takeD (i := 0) (d := 100) (v := .pointer (some ⟨xb, 0, none⟩)) (by kernel_rfl) rfl rfl (by omega) (by kernel_rfl) (by kernel_rfl) (fun c a w h => h) (yieldsIf_op rfl (fun w => by first | rfl | kernel_rfl | (go_simp; done))) hS ?_
  simp only [List.setIfInBounds_toArray, List.set_cons_succ, List.set_cons_zero]
  refine headsT_takeD (i := 1) (d := 101) (v := .pointer (some ⟨xb, 0, none⟩)) (by kernel_rfl) rfl rfl (by omega) (by kernel_rfl) (by kernel_rfl) (fun c a w h => h) (yieldsIf_op rfl (fun w => by first | rfl | kernel_rfl | (go_simp; done))) hS ?_
  simp only [List.setIfInBounds_toArray, List.set_cons_succ, List.set_cons_zero]
  refine headsT_takeD (i := 2) (d := 102) (v := .pointer (some ⟨xb, 0, none⟩)) (by kernel_rfl) rfl rfl (by omega) (by kernel_rfl) (by kernel_rfl) (fun c a w h => h) (yieldsIf_op rfl (fun w => by first | rfl | kernel_rfl | (go_simp; done))) hS ?_
  simp only [List.setIfInBounds_toArray, List.set_cons_succ, List.set_cons_zero]
  refine headsT_takeD (i := 3) (d := 103) (v := .pointer (some ⟨xb, 4, none⟩)) (by kernel_rfl) rfl rfl (by omega) (by kernel_rfl) (by kernel_rfl) (fun c a w h => h) (yieldsIf_op rfl (fun w => by first | rfl | kernel_rfl | (go_simp; done))) hS ?_
  simp only [List.setIfInBounds_toArray, List.set_cons_succ, List.set_cons_zero]
  refine headsT_takeD (i := 4) (d := 104) (v := .slice none 0 0) (by kernel_rfl) rfl rfl (by omega) (by kernel_rfl) (by kernel_rfl) (fun c a w h => h) (.inl ⟨by first | rfl | kernel_rfl, fun W' h => by obtain ⟨q0, q1, q2, q3, q4⟩ := HH.out W' h; go_simp⟩) hS ?_
  simp only [List.setIfInBounds_toArray, List.set_cons_succ, List.set_cons_zero]
  refine headsT_takeD (i := 5) (d := 105) (v := .pointer (some ⟨w.heap.size, 30, none⟩)) (by kernel_rfl) rfl rfl (by omega) (by kernel_rfl) (by kernel_rfl) (fun c a w h => h) (yieldsIf_op rfl (fun w => by first | rfl | kernel_rfl | (go_simp; done))) hS ?_
  simp only [List.setIfInBounds_toArray, List.set_cons_succ, List.set_cons_zero]
  refine headsT_takeD (i := 6) (d := 106) (v := .string nm) (by kernel_rfl) rfl rfl (by omega) (by kernel_rfl) (by kernel_rfl) (fun c a w h => h) (.inl ⟨by first | rfl | kernel_rfl, fun W' h => by obtain ⟨q0, q1, q2, q3, q4⟩ := HH.out W' h; go_simp⟩) hS ?_
  simp only [List.setIfInBounds_toArray, List.set_cons_succ, List.set_cons_zero]
  refine headsT_takeD (i := 7) (d := 107) (v := .pointer (some ⟨xb, 0, none⟩)) (by kernel_rfl) rfl rfl (by omega) (by kernel_rfl) (by kernel_rfl) (fun c a w h => h) (yieldsIf_op rfl (fun w => by first | rfl | kernel_rfl | (go_simp; done))) hS ?_
  simp only [List.setIfInBounds_toArray, List.set_cons_succ, List.set_cons_zero]
  refine headsT_takeD (i := 8) (d := 108) (v := .pointer (some ⟨xb, 0, none⟩)) (by kernel_rfl) rfl rfl (by omega) (by kernel_rfl) (by kernel_rfl) (fun c a w h => h) (yieldsIf_op rfl (fun w => by first | rfl | kernel_rfl | (go_simp; done))) hS ?_
  simp only [List.setIfInBounds_toArray, List.set_cons_succ, List.set_cons_zero]
  refine headsT_takeD (i := 9) (d := 109) (v := .pointer (some ⟨xb, 2, none⟩)) (by kernel_rfl) rfl rfl (by omega) (by kernel_rfl) (by kernel_rfl) (fun c a w h => h) (yieldsIf_op rfl (fun w => by first | rfl | kernel_rfl | (go_simp; done))) hS ?_
  simp only [List.setIfInBounds_toArray, List.set_cons_succ, List.set_cons_zero]
  refine headsT_takeD (i := 10) (d := 110) (v := .slice (some ⟨mb, 0, none⟩) 12 12) (by kernel_rfl) rfl rfl (by omega) (by kernel_rfl) (by kernel_rfl) (fun c a w h => h) (.inl ⟨by first | rfl | kernel_rfl, fun W' h => by obtain ⟨q0, q1, q2, q3, q4⟩ := HH.out W' h; go_simp⟩) hS ?_
  simp only [List.setIfInBounds_toArray, List.set_cons_succ, List.set_cons_zero]
  refine headsT_takeD (i := 11) (d := 111) (v := .pointer (some ⟨w.heap.size, 1, none⟩)) (by kernel_rfl) rfl rfl (by omega) (by kernel_rfl) (by kernel_rfl) (fun c a w h => h) (yieldsIf_op rfl (fun w => by first | rfl | kernel_rfl | (go_simp; done))) hS ?_
  simp only [List.setIfInBounds_toArray, List.set_cons_succ, List.set_cons_zero]
  refine headsT_takeD (i := 12) (d := 112) (v := .int .i64 0) (by kernel_rfl) rfl rfl (by omega) (by kernel_rfl) (by kernel_rfl) (fun c a w h => h) (.inl ⟨by first | rfl | kernel_rfl, fun W' h => by obtain ⟨q0, q1, q2, q3, q4⟩ := HH.out W' h; go_simp⟩) hS ?_
  simp only [List.setIfInBounds_toArray, List.set_cons_succ, List.set_cons_zero]
  refine headsT_takeD (i := 13) (d := 113) (v := .pointer (some ⟨mb, 0, none⟩)) (by kernel_rfl) rfl rfl (by omega) (by kernel_rfl) (by kernel_rfl) (fun c a w h => h) (yieldsIf_op rfl (fun w => by first | rfl | kernel_rfl | (go_simp; done))) hS ?_
  simp only [List.setIfInBounds_toArray, List.set_cons_succ, List.set_cons_zero]
  refine headsT_takeD (i := 14) (d := 114) (v := u) (by kernel_rfl) rfl rfl (by omega) (by kernel_rfl) (by kernel_rfl) (fun c a w h => h) (.inl ⟨by first | rfl | kernel_rfl, fun W' h => by obtain ⟨q0, q1, q2, q3, q4⟩ := HH.out W' h; go_simp⟩) hS ?_
  simp only [List.setIfInBounds_toArray, List.set_cons_succ, List.set_cons_zero]
  refine headsT_ready (rs := [15]) (by kernel_rfl) (by simp) (AllReadyT.cons (by omega) rfl (fun K' hK => ?_) AllReadyT.nil)
  refine callD (d := 115) (g := 56) (args := #[u]) rfl rfl (by first | kernel_rfl | (simp [execOp, resolve, invoke, Act.eval]) | go_simp) ?_
  refine (clone8 _ u m (HU.out.below' hS).rd (by omega)).mono ?_
  rintro e Wa ⟨u1, rfl, hO1, hBa⟩
  obtain ⟨p1, k1, rfl⟩ := hO1.slice
  replace hS := hS.trans (hBa.mono hS.size)
  refine ⟨_, rfl, hK.out _ _ hS fun _ => ?_⟩
  clear hK hBa
  simp only [List.setIfInBounds_toArray, List.set_cons_succ, List.set_cons_zero]
  refine headsT_takeD (i := 16) (d := 116) (v := .agg #[.string nm, .slice p1 m.length k1]) (by kernel_rfl) rfl rfl (by omega) (by kernel_rfl) (by kernel_rfl) (fun c a w h => h) (yieldsIf_op rfl (fun w => by first | rfl | kernel_rfl | (go_simp; done))) hS ?_
  simp only [List.setIfInBounds_toArray, List.set_cons_succ, List.set_cons_zero]
  refine headsT_ready (rs := [17]) (by kernel_rfl) (by simp) (AllReadyT.cons (by omega) rfl (fun K' hK => ?_) AllReadyT.nil)
  have hSb := hS.alloc hS.size (.cells #[.string nm, .slice p1 m.length k1] 199)
  refine valueD (d := 117) (v := .slice (some ⟨Wa.heap.size, 0, none⟩) 1 1) (w' := Wa.alloc (.cells #[.string nm, .slice p1 m.length k1] 199)) rfl rfl (by first | rfl | kernel_rfl) ?_
  refine hK.out _ _ hSb fun _ => ?_
  clear hK hS
  simp only [List.setIfInBounds_toArray, List.set_cons_succ, List.set_cons_zero]
  refine headsT_ready (rs := [18]) (by kernel_rfl) (by simp) (AllReadyT.cons (by omega) rfl (fun K' hK => ?_) AllReadyT.nil)
  have n0 : (Wa.alloc (.cells #[.string nm, .slice p1 m.length k1] 199)).heap[Wa.heap.size]? = some (.cells #[.string nm, .slice p1 m.length k1] 199 (0, 0)) := World.alloc_heap_new _ _
  have hRd := (hO1.alloc (.cells #[.string nm, .slice p1 m.length k1] 199)).rd
  have hsb : Wa.heap.size < (Wa.alloc (.cells #[.string nm, .slice p1 m.length k1] 199)).heap.size := by simp
  have hRx : ∀ g, (Value.slice p1 m.length k1).ownBlock = some g → some g ≠ some xb := fun g hg e => by injection e with e; have h1 := (hO1.lt g hg).1; have h2 := HE.out.1.lt; have h3 : W9.drew.heap.size = W9.heap.size := rfl; omega
  clear hO1
  generalize hWb : (Wa.alloc (.cells #[.string nm, .slice p1 m.length k1] 199)) = Wb at *
  generalize Wa.heap.size = nb at *
  have n1 : ∀ (j : Nat) (u : Value), ([.string nm, .slice p1 m.length k1] : List Value)[j]? = some u → Wb.cell? ((⟨nb, 0, none⟩ : Addr).add j) = some u := by
    intro j u hj
    have h2 : ((⟨nb, 0, none⟩ : Addr).add j) = ⟨nb, j, none⟩ := by unfold Addr.add; split <;> simp_all
    rw [h2]; unfold World.cell?; rw [n0]
    simpa using hj
  rw [if_pos (by rfl)]
  refine wp_append_own Wb (.tmp 104) (.tmp 117) 158 rfl Wb.heap.size 199 _ _ 2 40 Tryz.underlying158 rfl rfl rfl rfl rfl (by omega) (.slice none 0 0) 0 [] rfl (World.ownsRow_nil _ _ _ _) ⟨nb, 0, none⟩ 1 1 [.string nm, .slice p1 m.length k1] rfl rfl n1 (by simp [Value.oneCell']) (by simp only [maxLen]; omega) (by omega) (Nat.le_refl _) ?_
  intro v2 w2 hO2 hgr hnil
  obtain ⟨g2, c2, rfl, hg2, hc2⟩ : ∃ g c, v2 = .slice (some ⟨g, 0, none⟩) 1 c ∧ g < w2.heap.size ∧ 1 ≤ c := by
    rcases hO2.2 with ⟨_, h0⟩ | ⟨g, cap, cur, he, hb, hg, hn, _⟩
    · omega
    · exact ⟨g, cap, he, (Array.getElem?_eq_some_iff.1 hg).1, hn⟩
  have hBw : Below Wb.heap.size Wb w2 := (Below.refl _ _).grown hgr (Nat.le_refl _) (fun k e => by cases e)
  have m0 : w2.cell? ⟨g2, 0, none⟩ = some (.string nm) := by
    have := hO2.cells rfl 0 (.string nm) rfl
    simpa [Addr.add] using this
  have m1 : w2.cell? ⟨g2, 1, none⟩ = some (.slice p1 m.length k1) := by
    have := hO2.cells rfl 1 (.slice p1 m.length k1) rfl
    simpa [Addr.add] using this
  have hSc := hSb.trans (hBw.mono hSb.size)
  replace hRd := hRd.below hBw
  refine hK.out _ _ hSc fun _ => ?_
  clear hK hO2 hgr hnil n0 n1 hWb hBw hSb
  simp only [Act.put, List.setIfInBounds_toArray]
  refine headsT_tail (by kernel_rfl) ?_
  simp only [List.drop]
  have y4 := (HH.out w2 hSc).1
  obtain ⟨hx9, hs9, hG9⟩ := HE.out
  have hxw := hx9.below hSc hx9.lt
  have z4 := hxw.frozen 4
  have hG2 : w.grownBy w2 (some xb) := hG9.andThen (grown_of_below hSc (some xb)) (fun j e => .inr e)
  have hxg : xb ≠ g2 := by
    rintro rfl
    have h1 := hxw.cell? 0
    rw [m0] at h1
    cases h1
  have hxf : Row oV (w2.setCell ⟨xb, 4, none⟩ (.slice (some ⟨g2, 0, none⟩) 1 c2)) xb 196 (exC sb so sc bb bo bc mb nv ⟨.slice (some ⟨g2, 0, none⟩) 1 c2, rfl⟩ ⟨.slice p3 1 c3, rfl⟩ av) := hxw.set 4 ⟨.slice (some ⟨g2, 0, none⟩) 1 c2, rfl⟩
  have hGf : w.grownBy (w2.setCell ⟨xb, 4, none⟩ (.slice (some ⟨g2, 0, none⟩) 1 c2)) (some xb) := grown_set hG2 4 _
  have hset := grown_set (grown_of_below (Below.refl w2.heap.size w2) (some xb)) 4 (.slice (some ⟨g2, 0, none⟩) 1 c2)
  have mf0 := (World.cell?_of_block (a := ⟨g2, 0, none⟩) (hset.block g2 hg2 (by intro e; injection e with e; exact hxg e.symm))).trans m0
  have mf1 := (World.cell?_of_block (a := ⟨g2, 1, none⟩) (hset.block g2 hg2 (by intro e; injection e with e; exact hxg e.symm))).trans m1
  have hlf := Nat.lt_of_lt_of_le hg2 hset.size
  have hRf : Rd u8V (w2.setCell ⟨xb, 4, none⟩ (.slice (some ⟨g2, 0, none⟩) 1 c2)) (.slice p1 m.length k1) m := Mem.Rd.grown' hRd hset hRx
  clear hx9 hs9 hG9 hG2 m0 m1 hxw hset
  go_wp2_with fail
  generalize (w2.setCell ⟨xb, 4, none⟩ (.slice (some ⟨g2, 0, none⟩) 1 c2)) = Wf at hxf hGf mf0 mf1 hlf hRf ⊢
  refine (iBlkNeg Wf _).mono ?_
  rintro e Wf' ⟨rfl, rfl⟩
  go_wp2_with fail
  refine rounds_step (n := 0) ?_
  go_wp2_with fail
  rw [Exit.noGoto_ret]
  go_ret
  exact ⟨rfl, hGf, g2, c2, _, _, hxf, mf0, mf1, hRf, hlf, hc2⟩
end Go.Proofs.YtgflelodpcgmbaaGreatDoor
