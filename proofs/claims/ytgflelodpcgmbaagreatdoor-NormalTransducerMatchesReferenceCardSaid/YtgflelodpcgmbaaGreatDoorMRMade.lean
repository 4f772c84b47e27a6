/- univocalref25.Made. -/
import Derived.Test.YtgflelodpcgmbaaGreatDoorMSubRow
namespace Go.Proofs.YtgflelodpcgmbaaGreatDoor
open Go Go.RowKit Mem
set_option maxRecDepth 100000

theorem eltCe : EltK Tryz.prog 76 75 3 24 := EltK.mk' (z := .agg #[.int .i64 0, .int .i64 0, .int .u8 0]) Tryz.underlying76 (by kernel_rfl) rfl
theorem eltRow : Elt Tryz.prog 23 76 24 := Elt.mk' (z := .slice none 0 0) Tryz.underlying23 (by kernel_rfl) rfl
theorem eltBo : Elt Tryz.prog 24 4 1 := Elt.mk' (z := .bool false) Tryz.underlying24 (by kernel_rfl) rfl
theorem ceL_len (c : Ce) : (ceL c).length = 3 := rfl
theorem bV_one' (x : Bool) : (Value.bool x).oneCell' = true := rfl
theorem compl_o : (clOa.union clOb).compl = clOo := by decide +kernel

set_option maxHeartbeats 32000000 in
theorem rMade (w : World) (p : Option Addr) (c : Nat) (l : List UInt8) (hv : Rd u8V w (.slice p l.length c) l) : Calls Tryz.prog 17 #[.slice p l.length c] w fun e w' => ∃ pc pr pe kc kr ke, e = .returned (.agg #[.slice pc (made l).cls.length kc, .slice pr (made l).rows.length kr, .slice pe (made l).ends.length ke]) ∧ NzAt w' (.agg #[.slice pc (made l).cls.length kc, .slice pr (made l).rows.length kr, .slice pe (made l).ends.length ke]) (made l) ∧ Below w.heap.size w w' := by
  have HV := Lib.hid hv
  clear hv
  go_enter Tryz.func17, Tryz.ntmps17
  go_upto_region 2 with (fail)
  obtain ⟨W, hW, hB, hs, r0⟩ : ∃ W, (w.alloc (.cells #[.slice none 0 0, .slice none 0 0, .slice none 0 0] 26)) = W ∧ Below w.heap.size w W ∧ w.heap.size + 1 ≤ W.heap.size ∧ Row oV W w.heap.size 26 [on, on, on] :=
    ⟨_, rfl, below_al (Below.refl _ _) (Nat.le_refl _) _, by simp, Row.new _ _ rfl⟩
  rw [hW]
  clear hW
  go_cut [13] (fun s13 wx => s13 = .bool (decide (0 < l.length)) ∧ wx = W)
  · go_wp2
    go_meet
    exact ⟨by simp, rfl⟩
  obtain ⟨h13, rfl⟩ := hcut
  rename_i hK
  refine hK _ _ ?_
  clear hK
  go_cut [3] (fun s3 wx => s3 = .int .i64 (mkStates l : Nat) ∧ wx = wc)
  · by_cases h0 : 0 < l.length
    · rw [decide_eq_true h0] at h13
      subst h13
      have hq : (0 : Int) < (l.length : Int) := by omega
      obtain ⟨b, o, rfl, hcl⟩ : ∃ b o, p = some ⟨b, o, none⟩ ∧ wc.cell? ⟨b, o, none⟩ = some (.int .u8 (l[0].toNat : Int)) := by
        rcases HV.out with ⟨_, _, e0⟩ | ⟨b, o, cap, he, hc, hat, hbl⟩
        · rw [e0] at h0; simp at h0
        · cases he
          refine ⟨b, o, rfl, ?_⟩
          have := hat 0 h0
          rw [hB.cell (p := ⟨b, o, none⟩) hbl]
          rw [Nat.add_zero, List.getElem?_eq_getElem h0] at this
          exact this
      have HM : Hid (mkStates l = 1 + l[0].toNat % 4) := Lib.hid (by unfold mkStates; rw [if_pos h0, List.getElem?_eq_getElem h0]; rfl)
      have hx1 : ((l[0].toNat : Nat) : Int).tmod 4 = ((l[0].toNat % 4 : Nat) : Int) := by rw [Int.tmod_eq_emod_of_nonneg (by omega)]; omega
      have hx2 : ((l[0].toNat : Nat) : Int) % 4 = ((l[0].toNat % 4 : Nat) : Int) := by omega
      have hx3 : l[0].toNat % 4 < 4 := Nat.mod_lt _ (by omega)
      generalize l[0].toNat = y at *
      generalize y % 4 = x at *
      have hw1 : IntKind.u8.wrap (x : Int) = (x : Int) := by rw [IntKind.wrap_u8]; omega
      have hw2 : wrap64 (x : Int) = (x : Int) := by unfold wrap64; omega
      have hw3 : wrap64 (1 + (x : Int)) = 1 + (x : Int) := by unfold wrap64; omega
      go_wp2
      go_meet
      have e1 : ((1 + x : Nat) : Int) = 1 + (x : Int) := by omega
      exact ⟨by rw [HM.out, e1] <;> (first | rfl | rw [hw3]), rfl⟩
    · rw [decide_eq_false h0] at h13
      subst h13
      have hq : ¬ (0 : Int) < (l.length : Int) := by omega
      have HM : Hid (mkStates l = 1) := Lib.hid (by unfold mkStates; rw [if_neg h0])
      go_wp2
      go_meet
      exact ⟨by rw [HM.out]; rfl, rfl⟩
  obtain ⟨rfl, rfl⟩ := hcut
  clear h13
  have hst := mkStates_bd l
  generalize hsn : mkStates l = sn at *
  clear hs
  go_upto_region 4 with (fail)
  go_wp2_with fail
  have hRd : Rd u8V (wc.alloc (.cells #[.int .u8 97] 5)) (.slice (some ⟨wc.heap.size, 0, none⟩) 1 1) [97] := .inr ⟨wc.heap.size, 0, 1, rfl, Nat.le_refl _, (Row.new (f := u8V) (l := [97]) wc _ rfl).at, by simp⟩
  have hb := below_al (Below.refl wc.heap.size wc) (Nat.le_refl _) (.cells #[.int .u8 97] 5)
  generalize (wc.alloc (.cells #[.int .u8 97] 5)) = AX1 at *
  refine (rOf AX1 _ [97] hRd (by simp)).mono ?_
  rintro e BX1 ⟨rfl, hb2⟩
  rw [show addAll [97] = clOa from by decide +kernel]
  have hb3 := hb.trans (hb2.mono hb.size)
  replace r0 := r0.below hb3 r0.lt
  replace hB := hB.trans (hb3.mono hB.size)
  have hls4 : w.heap.size < BX1.heap.size := r0.lt
  have hz : Row oV (BX1.alloc (.cells #[.int .u64 0, .int .u64 0, .int .u64 0, .int .u64 0] 80)) BX1.heap.size 80 [ow 0, ow 0, ow 0, ow 0] := Row.new _ _ rfl
  go_upto_region 5 with (((with_reducible refine store_agg (f := oV) (l := [ow 0, ow 0, ow 0, ow 0]) (l' := clL clOa) (t := 80) (C := clA clOa) aggCl (.tmp 4) (.tmp 21) ?_ ?_ BX1.heap.size ?_ ?_ ?_ hz ?_ oV_one ?_); rfl; rfl; rfl; rfl; rfl; rfl; (intro X1 s4 hG1 hz1)))
  have hb4 := below_row (Below.refl BX1.heap.size BX1) hG1
  replace r0 := r0.below hb4 r0.lt
  replace hB := hB.trans (hb4.mono hB.size)
  clear hRd hb hb2 hb3 hz hG1 hz1 hb4
  generalize BX1.heap.size = ns4 at *
  go_wp2_with fail
  have hRd : Rd u8V (X1.alloc (.cells #[.int .u8 98] 5)) (.slice (some ⟨X1.heap.size, 0, none⟩) 1 1) [98] := .inr ⟨X1.heap.size, 0, 1, rfl, Nat.le_refl _, (Row.new (f := u8V) (l := [98]) X1 _ rfl).at, by simp⟩
  have hb := below_al (Below.refl X1.heap.size X1) (Nat.le_refl _) (.cells #[.int .u8 98] 5)
  generalize (X1.alloc (.cells #[.int .u8 98] 5)) = AX2 at *
  refine (rOf AX2 _ [98] hRd (by simp)).mono ?_
  rintro e BX2 ⟨rfl, hb2⟩
  rw [show addAll [98] = clOb from by decide +kernel]
  have hb3 := hb.trans (hb2.mono hb.size)
  replace r0 := r0.below hb3 r0.lt
  replace s4 := s4.below hb3 s4.lt
  replace hB := hB.trans (hb3.mono hB.size)
  have hls5 : w.heap.size < BX2.heap.size := r0.lt
  have hz : Row oV (BX2.alloc (.cells #[.int .u64 0, .int .u64 0, .int .u64 0, .int .u64 0] 80)) BX2.heap.size 80 [ow 0, ow 0, ow 0, ow 0] := Row.new _ _ rfl
  go_upto_region 6 with (((with_reducible refine store_agg (f := oV) (l := [ow 0, ow 0, ow 0, ow 0]) (l' := clL clOb) (t := 80) (C := clA clOb) aggCl (.tmp 5) (.tmp 23) ?_ ?_ BX2.heap.size ?_ ?_ ?_ hz ?_ oV_one ?_); rfl; rfl; rfl; rfl; rfl; rfl; (intro X2 s5 hG1 hz1)))
  have hb4 := below_row (Below.refl BX2.heap.size BX2) hG1
  replace r0 := r0.below hb4 r0.lt
  replace s4 := s4.below hb4 s4.lt
  replace hB := hB.trans (hb4.mono hB.size)
  clear hRd hb hb2 hb3 hz hG1 hz1 hb4
  generalize BX2.heap.size = ns5 at *
  rw [put_none]
  go_cut [6] (fun s6 wx => ∃ nb g, s6 = .pointer (some ⟨nb, 0, none⟩) ∧ X2.heap.size ≤ nb ∧ X2.heap.size ≤ g ∧ g ≠ nb ∧ Row oV wx nb 26 [osl g 3 3, on, on] ∧ RdK 4 clL wx (.slice (some ⟨g, 0, none⟩) 3 3) [clOo, clOa, clOb] ∧ Below X2.heap.size X2 wx)
  · refine region_headsT (S := fun X => Below X2.heap.size X2 X) 9 rfl (by kernel_rfl) (Below.refl _ _).drew fun hS => ?_
    refine headsT_takeD (i := 0) (d := 24) (v := .agg (clA clOa)) (by kernel_rfl) rfl rfl (by omega) (by kernel_rfl) (by kernel_rfl) (fun c a w h => h) (yieldsIf_load (f := oV) (l := clL clOa) aggCl (.tmp 4) rfl ns4 0 rfl (fun W' h => (s4.below h s4.lt).at) rfl rfl) hS ?_
    simp only [List.setIfInBounds_toArray, List.set_cons_succ, List.set_cons_zero]
    refine headsT_takeD (i := 1) (d := 25) (v := .agg (clA clOb)) (by kernel_rfl) rfl rfl (by omega) (by kernel_rfl) (by kernel_rfl) (fun c a w h => h) (yieldsIf_load (f := oV) (l := clL clOb) aggCl (.tmp 5) rfl ns5 0 rfl (fun W' h => (s5.below h s5.lt).at) rfl rfl) hS ?_
    simp only [List.setIfInBounds_toArray, List.set_cons_succ, List.set_cons_zero]
    refine headsT_takeD (i := 4) (d := 28) (v := .agg (clA clOa)) (by kernel_rfl) rfl rfl (by omega) (by kernel_rfl) (by kernel_rfl) (fun c a w h => h) (yieldsIf_load (f := oV) (l := clL clOa) aggCl (.tmp 4) rfl ns4 0 rfl (fun W' h => (s4.below h s4.lt).at) rfl rfl) hS ?_
    simp only [List.setIfInBounds_toArray, List.set_cons_succ, List.set_cons_zero]
    refine headsT_takeD (i := 5) (d := 29) (v := .agg (clA clOb)) (by kernel_rfl) rfl rfl (by omega) (by kernel_rfl) (by kernel_rfl) (fun c a w h => h) (yieldsIf_load (f := oV) (l := clL clOb) aggCl (.tmp 5) rfl ns5 0 rfl (fun W' h => (s5.below h s5.lt).at) rfl rfl) hS ?_
    simp only [List.setIfInBounds_toArray, List.set_cons_succ, List.set_cons_zero]
    refine headsT_ready (rs := [2, 8]) (by kernel_rfl) (by simp) (AllReadyT.cons (by omega) rfl (fun K' hK => ?_) (AllReadyT.cons (by omega) rfl (fun K' hK => ?_) AllReadyT.nil))
    · refine callD (d := 26) (g := 42) (args := #[.agg (clA clOa), .agg (clA clOb)]) rfl rfl (by first | kernel_rfl | (simp [execOp, resolve, invoke, Act.eval]) | go_simp) ?_
      refine (rUnion _ clOa clOb).mono ?_
      rintro e A1 ⟨rfl, hBx⟩
      replace hS := hS.trans (hBx.mono hS.size)
      refine ⟨_, rfl, hK.out _ _ hS fun _ => ?_⟩
      clear hK
      simp only [List.setIfInBounds_toArray, List.set_cons_succ, List.set_cons_zero]
      refine headsT_ready (rs := [3, 8]) (by kernel_rfl) (by simp) (AllReadyT.cons (by omega) rfl (fun K' hK => ?_) (AllReadyT.cons (by omega) rfl (fun K' hK => ?_) AllReadyT.nil))
      · refine callD (d := 27) (g := 41) (args := #[.agg (clA (clOa.union clOb))]) rfl rfl (by first | kernel_rfl | (simp [execOp, resolve, invoke, Act.eval]) | go_simp) ?_
        refine (rNot _ (clOa.union clOb)).mono ?_
        rintro e A2 ⟨rfl, hBx⟩
        rw [compl_o]
        replace hS := hS.trans (hBx.mono hS.size)
        refine ⟨_, rfl, hK.out _ _ hS fun _ => ?_⟩
        clear hK
        simp only [List.setIfInBounds_toArray, List.set_cons_succ, List.set_cons_zero]
        refine headsT_ready (rs := [6, 8]) (by kernel_rfl) (by simp) (AllReadyT.cons (by omega) rfl (fun K' hK => ?_) (AllReadyT.cons (by omega) rfl (fun K' hK => ?_) AllReadyT.nil))
        · have hBx := below_al (Below.refl A2.heap.size A2) (Nat.le_refl _) (.cells #[.int .u64 (X clOo.a), .int .u64 (X clOo.b), .int .u64 (X clOo.c), .int .u64 (X clOo.d), .int .u64 (X clOa.a), .int .u64 (X clOa.b), .int .u64 (X clOa.c), .int .u64 (X clOa.d), .int .u64 (X clOb.a), .int .u64 (X clOb.b), .int .u64 (X clOb.c), .int .u64 (X clOb.d)] 80)
          have hR : RdK 4 clL (A2.alloc (.cells #[.int .u64 (X clOo.a), .int .u64 (X clOo.b), .int .u64 (X clOo.c), .int .u64 (X clOo.d), .int .u64 (X clOa.a), .int .u64 (X clOa.b), .int .u64 (X clOa.c), .int .u64 (X clOa.d), .int .u64 (X clOb.a), .int .u64 (X clOb.b), .int .u64 (X clOb.c), .int .u64 (X clOb.d)] 80)) (.slice (some ⟨A2.heap.size, 0, none⟩) 3 3) [clOo, clOa, clOb] := RdK.row (l := ([clOo, clOa, clOb] : List Cl)) (cs := clL clOo ++ (clL clOa ++ clL clOb)) (Row.new A2 (.cells #[.int .u64 (X clOo.a), .int .u64 (X clOo.b), .int .u64 (X clOo.c), .int .u64 (X clOo.d), .int .u64 (X clOa.a), .int .u64 (X clOa.b), .int .u64 (X clOa.c), .int .u64 (X clOa.d), .int .u64 (X clOb.a), .int .u64 (X clOb.b), .int .u64 (X clOb.c), .int .u64 (X clOb.d)] 80) rfl) rfl (fun x _ => rfl)
          refine valueD (d := 30) (v := .slice (some ⟨A2.heap.size, 0, none⟩) 3 3) (w' := A2.alloc (.cells #[.int .u64 (X clOo.a), .int .u64 (X clOo.b), .int .u64 (X clOo.c), .int .u64 (X clOo.d), .int .u64 (X clOa.a), .int .u64 (X clOa.b), .int .u64 (X clOa.c), .int .u64 (X clOa.d), .int .u64 (X clOb.a), .int .u64 (X clOb.b), .int .u64 (X clOb.c), .int .u64 (X clOb.d)] 80)) rfl rfl (by first | rfl | kernel_rfl | (simp [execOp, go_sem]; done)) ?_
          have hg6 : X2.heap.size ≤ A2.heap.size := hS.size
          generalize (A2.alloc (.cells #[.int .u64 (X clOo.a), .int .u64 (X clOo.b), .int .u64 (X clOo.c), .int .u64 (X clOo.d), .int .u64 (X clOa.a), .int .u64 (X clOa.b), .int .u64 (X clOa.c), .int .u64 (X clOa.d), .int .u64 (X clOb.a), .int .u64 (X clOb.b), .int .u64 (X clOb.c), .int .u64 (X clOb.d)] 80)) = A3 at *
          have hgl : A2.heap.size < A3.heap.size := by obtain ⟨b, o, he, _, _, hl⟩ := hR.elem 0 (by simp); cases he; exact hl
          replace hS := hS.trans (hBx.mono hS.size)
          refine hK.out _ _ hS fun _ => ?_
          clear hK
          simp only [List.setIfInBounds_toArray, List.set_cons_succ, List.set_cons_zero]
          refine headsT_takeD (i := 7) (d := 31) (v := .agg #[.slice (some ⟨A2.heap.size, 0, none⟩) 3 3, .slice none 0 0, .slice none 0 0]) (by kernel_rfl) rfl rfl (by omega) (by kernel_rfl) (by kernel_rfl) (fun c a w h => h) (yieldsIf_op rfl (fun w => by first | rfl | kernel_rfl | (go_simp; done))) hS ?_
          simp only [List.setIfInBounds_toArray, List.set_cons_succ, List.set_cons_zero]
          refine headsT_ready (rs := [8]) (by kernel_rfl) (by simp) (AllReadyT.cons (by omega) rfl (fun K' hK => ?_) AllReadyT.nil)
          · have hBx := below_al (Below.refl A3.heap.size A3) (Nat.le_refl _) (.cells #[.slice none 0 0, .slice none 0 0, .slice none 0 0] 26)
            have hz : Row oV (A3.alloc (.cells #[.slice none 0 0, .slice none 0 0, .slice none 0 0] 26)) A3.heap.size 26 [on, on, on] := Row.new _ _ rfl
            refine allocD (d := 6) (ob := (.cells #[.slice none 0 0, .slice none 0 0, .slice none 0 0] 26)) rfl rfl (by first | rfl | kernel_rfl) ?_
            have hn6 : X2.heap.size ≤ A3.heap.size := hS.size
            have hgn : A2.heap.size ≠ A3.heap.size := fun e => by have := hgl; omega
            generalize (A3.alloc (.cells #[.slice none 0 0, .slice none 0 0, .slice none 0 0] 26)) = A4 at *
            replace hR := hR.below hBx
            replace hgl := Nat.lt_of_lt_of_le hgl hBx.size
            replace hS := hS.trans (hBx.mono hS.size)
            refine hK.out _ _ hS fun _ => ?_
            clear hK
            simp only [List.setIfInBounds_toArray, List.set_cons_succ, List.set_cons_zero]
            refine headsT_tail (by kernel_rfl) ?_
            simp only [List.drop]
            go_wp2_with (((with_reducible refine store_agg (f := oV) (l := [on, on, on]) (l' := [osl A2.heap.size 3 3, on, on]) (t := 26) (C := #[.slice (some ⟨A2.heap.size, 0, none⟩) 3 3, .slice none 0 0, .slice none 0 0]) aggNorm (.tmp 6) (.tmp 31) ?_ ?_ A3.heap.size ?_ ?_ ?_ hz ?_ oV_one ?_); rfl; rfl; rfl; rfl; rfl; rfl; (intro Y hsY hGY hzY)))
            go_meet
            exact ⟨A3.heap.size, A2.heap.size, rfl, hn6, hg6, hgn, hsY, hR.grown hGY (fun e => by injection e with e; exact hgn e), hS.grown hGY hS.size (fun j e => by cases e; exact hn6)⟩
        · have hBx := below_al (Below.refl A2.heap.size A2) (Nat.le_refl _) (.cells #[.slice none 0 0, .slice none 0 0, .slice none 0 0] 26)
          have hz : Row oV (A2.alloc (.cells #[.slice none 0 0, .slice none 0 0, .slice none 0 0] 26)) A2.heap.size 26 [on, on, on] := Row.new _ _ rfl
          refine allocD (d := 6) (ob := (.cells #[.slice none 0 0, .slice none 0 0, .slice none 0 0] 26)) rfl rfl (by first | rfl | kernel_rfl) ?_
          have hn6 : X2.heap.size ≤ A2.heap.size := hS.size
          generalize (A2.alloc (.cells #[.slice none 0 0, .slice none 0 0, .slice none 0 0] 26)) = A5 at *
          replace hS := hS.trans (hBx.mono hS.size)
          refine hK.out _ _ hS fun _ => ?_
          clear hK
          simp only [List.setIfInBounds_toArray, List.set_cons_succ, List.set_cons_zero]
          refine headsT_ready (rs := [6]) (by kernel_rfl) (by simp) (AllReadyT.cons (by omega) rfl (fun K' hK => ?_) AllReadyT.nil)
          · have hBx := below_al (Below.refl A5.heap.size A5) (Nat.le_refl _) (.cells #[.int .u64 (X clOo.a), .int .u64 (X clOo.b), .int .u64 (X clOo.c), .int .u64 (X clOo.d), .int .u64 (X clOa.a), .int .u64 (X clOa.b), .int .u64 (X clOa.c), .int .u64 (X clOa.d), .int .u64 (X clOb.a), .int .u64 (X clOb.b), .int .u64 (X clOb.c), .int .u64 (X clOb.d)] 80)
            have hR : RdK 4 clL (A5.alloc (.cells #[.int .u64 (X clOo.a), .int .u64 (X clOo.b), .int .u64 (X clOo.c), .int .u64 (X clOo.d), .int .u64 (X clOa.a), .int .u64 (X clOa.b), .int .u64 (X clOa.c), .int .u64 (X clOa.d), .int .u64 (X clOb.a), .int .u64 (X clOb.b), .int .u64 (X clOb.c), .int .u64 (X clOb.d)] 80)) (.slice (some ⟨A5.heap.size, 0, none⟩) 3 3) [clOo, clOa, clOb] := RdK.row (l := ([clOo, clOa, clOb] : List Cl)) (cs := clL clOo ++ (clL clOa ++ clL clOb)) (Row.new A5 (.cells #[.int .u64 (X clOo.a), .int .u64 (X clOo.b), .int .u64 (X clOo.c), .int .u64 (X clOo.d), .int .u64 (X clOa.a), .int .u64 (X clOa.b), .int .u64 (X clOa.c), .int .u64 (X clOa.d), .int .u64 (X clOb.a), .int .u64 (X clOb.b), .int .u64 (X clOb.c), .int .u64 (X clOb.d)] 80) rfl) rfl (fun x _ => rfl)
            refine valueD (d := 30) (v := .slice (some ⟨A5.heap.size, 0, none⟩) 3 3) (w' := A5.alloc (.cells #[.int .u64 (X clOo.a), .int .u64 (X clOo.b), .int .u64 (X clOo.c), .int .u64 (X clOo.d), .int .u64 (X clOa.a), .int .u64 (X clOa.b), .int .u64 (X clOa.c), .int .u64 (X clOa.d), .int .u64 (X clOb.a), .int .u64 (X clOb.b), .int .u64 (X clOb.c), .int .u64 (X clOb.d)] 80)) rfl rfl (by first | rfl | kernel_rfl | (simp [execOp, go_sem]; done)) ?_
            have hg6 : X2.heap.size ≤ A5.heap.size := hS.size
            have hgn : A5.heap.size ≠ A2.heap.size := fun e => by have := hz.lt; omega
            generalize (A5.alloc (.cells #[.int .u64 (X clOo.a), .int .u64 (X clOo.b), .int .u64 (X clOo.c), .int .u64 (X clOo.d), .int .u64 (X clOa.a), .int .u64 (X clOa.b), .int .u64 (X clOa.c), .int .u64 (X clOa.d), .int .u64 (X clOb.a), .int .u64 (X clOb.b), .int .u64 (X clOb.c), .int .u64 (X clOb.d)] 80)) = A6 at *
            replace hz := hz.below hBx hz.lt
            have hgl : A5.heap.size < A6.heap.size := by obtain ⟨b, o, he, _, _, hl⟩ := hR.elem 0 (by simp); cases he; exact hl
            replace hS := hS.trans (hBx.mono hS.size)
            refine hK.out _ _ hS fun _ => ?_
            clear hK
            simp only [List.setIfInBounds_toArray, List.set_cons_succ, List.set_cons_zero]
            refine headsT_takeD (i := 7) (d := 31) (v := .agg #[.slice (some ⟨A5.heap.size, 0, none⟩) 3 3, .slice none 0 0, .slice none 0 0]) (by kernel_rfl) rfl rfl (by omega) (by kernel_rfl) (by kernel_rfl) (fun c a w h => h) (yieldsIf_op rfl (fun w => by first | rfl | kernel_rfl | (go_simp; done))) hS ?_
            simp only [List.setIfInBounds_toArray, List.set_cons_succ, List.set_cons_zero]
            refine headsT_tail (by kernel_rfl) ?_
            simp only [List.drop]
            go_wp2_with (((with_reducible refine store_agg (f := oV) (l := [on, on, on]) (l' := [osl A5.heap.size 3 3, on, on]) (t := 26) (C := #[.slice (some ⟨A5.heap.size, 0, none⟩) 3 3, .slice none 0 0, .slice none 0 0]) aggNorm (.tmp 6) (.tmp 31) ?_ ?_ A2.heap.size ?_ ?_ ?_ hz ?_ oV_one ?_); rfl; rfl; rfl; rfl; rfl; rfl; (intro Y hsY hGY hzY)))
            go_meet
            exact ⟨A2.heap.size, A5.heap.size, rfl, hn6, hg6, hgn, hsY, hR.grown hGY (fun e => by injection e with e; exact hgn e), hS.grown hGY hS.size (fun j e => by cases e; exact hn6)⟩
      · have hBx := below_al (Below.refl A1.heap.size A1) (Nat.le_refl _) (.cells #[.slice none 0 0, .slice none 0 0, .slice none 0 0] 26)
        have hz : Row oV (A1.alloc (.cells #[.slice none 0 0, .slice none 0 0, .slice none 0 0] 26)) A1.heap.size 26 [on, on, on] := Row.new _ _ rfl
        refine allocD (d := 6) (ob := (.cells #[.slice none 0 0, .slice none 0 0, .slice none 0 0] 26)) rfl rfl (by first | rfl | kernel_rfl) ?_
        have hn6 : X2.heap.size ≤ A1.heap.size := hS.size
        generalize (A1.alloc (.cells #[.slice none 0 0, .slice none 0 0, .slice none 0 0] 26)) = A7 at *
        replace hS := hS.trans (hBx.mono hS.size)
        refine hK.out _ _ hS fun _ => ?_
        clear hK
        simp only [List.setIfInBounds_toArray, List.set_cons_succ, List.set_cons_zero]
        refine headsT_ready (rs := [3]) (by kernel_rfl) (by simp) (AllReadyT.cons (by omega) rfl (fun K' hK => ?_) AllReadyT.nil)
        · refine callD (d := 27) (g := 41) (args := #[.agg (clA (clOa.union clOb))]) rfl rfl (by first | kernel_rfl | (simp [execOp, resolve, invoke, Act.eval]) | go_simp) ?_
          refine (rNot _ (clOa.union clOb)).mono ?_
          rintro e A8 ⟨rfl, hBx⟩
          rw [compl_o]
          replace hz := hz.below hBx hz.lt
          replace hS := hS.trans (hBx.mono hS.size)
          refine ⟨_, rfl, hK.out _ _ hS fun _ => ?_⟩
          clear hK
          simp only [List.setIfInBounds_toArray, List.set_cons_succ, List.set_cons_zero]
          refine headsT_ready (rs := [6]) (by kernel_rfl) (by simp) (AllReadyT.cons (by omega) rfl (fun K' hK => ?_) AllReadyT.nil)
          · have hBx := below_al (Below.refl A8.heap.size A8) (Nat.le_refl _) (.cells #[.int .u64 (X clOo.a), .int .u64 (X clOo.b), .int .u64 (X clOo.c), .int .u64 (X clOo.d), .int .u64 (X clOa.a), .int .u64 (X clOa.b), .int .u64 (X clOa.c), .int .u64 (X clOa.d), .int .u64 (X clOb.a), .int .u64 (X clOb.b), .int .u64 (X clOb.c), .int .u64 (X clOb.d)] 80)
            have hR : RdK 4 clL (A8.alloc (.cells #[.int .u64 (X clOo.a), .int .u64 (X clOo.b), .int .u64 (X clOo.c), .int .u64 (X clOo.d), .int .u64 (X clOa.a), .int .u64 (X clOa.b), .int .u64 (X clOa.c), .int .u64 (X clOa.d), .int .u64 (X clOb.a), .int .u64 (X clOb.b), .int .u64 (X clOb.c), .int .u64 (X clOb.d)] 80)) (.slice (some ⟨A8.heap.size, 0, none⟩) 3 3) [clOo, clOa, clOb] := RdK.row (l := ([clOo, clOa, clOb] : List Cl)) (cs := clL clOo ++ (clL clOa ++ clL clOb)) (Row.new A8 (.cells #[.int .u64 (X clOo.a), .int .u64 (X clOo.b), .int .u64 (X clOo.c), .int .u64 (X clOo.d), .int .u64 (X clOa.a), .int .u64 (X clOa.b), .int .u64 (X clOa.c), .int .u64 (X clOa.d), .int .u64 (X clOb.a), .int .u64 (X clOb.b), .int .u64 (X clOb.c), .int .u64 (X clOb.d)] 80) rfl) rfl (fun x _ => rfl)
            refine valueD (d := 30) (v := .slice (some ⟨A8.heap.size, 0, none⟩) 3 3) (w' := A8.alloc (.cells #[.int .u64 (X clOo.a), .int .u64 (X clOo.b), .int .u64 (X clOo.c), .int .u64 (X clOo.d), .int .u64 (X clOa.a), .int .u64 (X clOa.b), .int .u64 (X clOa.c), .int .u64 (X clOa.d), .int .u64 (X clOb.a), .int .u64 (X clOb.b), .int .u64 (X clOb.c), .int .u64 (X clOb.d)] 80)) rfl rfl (by first | rfl | kernel_rfl | (simp [execOp, go_sem]; done)) ?_
            have hg6 : X2.heap.size ≤ A8.heap.size := hS.size
            have hgn : A8.heap.size ≠ A1.heap.size := fun e => by have := hz.lt; omega
            generalize (A8.alloc (.cells #[.int .u64 (X clOo.a), .int .u64 (X clOo.b), .int .u64 (X clOo.c), .int .u64 (X clOo.d), .int .u64 (X clOa.a), .int .u64 (X clOa.b), .int .u64 (X clOa.c), .int .u64 (X clOa.d), .int .u64 (X clOb.a), .int .u64 (X clOb.b), .int .u64 (X clOb.c), .int .u64 (X clOb.d)] 80)) = A9 at *
            replace hz := hz.below hBx hz.lt
            have hgl : A8.heap.size < A9.heap.size := by obtain ⟨b, o, he, _, _, hl⟩ := hR.elem 0 (by simp); cases he; exact hl
            replace hS := hS.trans (hBx.mono hS.size)
            refine hK.out _ _ hS fun _ => ?_
            clear hK
            simp only [List.setIfInBounds_toArray, List.set_cons_succ, List.set_cons_zero]
            refine headsT_takeD (i := 7) (d := 31) (v := .agg #[.slice (some ⟨A8.heap.size, 0, none⟩) 3 3, .slice none 0 0, .slice none 0 0]) (by kernel_rfl) rfl rfl (by omega) (by kernel_rfl) (by kernel_rfl) (fun c a w h => h) (yieldsIf_op rfl (fun w => by first | rfl | kernel_rfl | (go_simp; done))) hS ?_
            simp only [List.setIfInBounds_toArray, List.set_cons_succ, List.set_cons_zero]
            refine headsT_tail (by kernel_rfl) ?_
            simp only [List.drop]
            go_wp2_with (((with_reducible refine store_agg (f := oV) (l := [on, on, on]) (l' := [osl A8.heap.size 3 3, on, on]) (t := 26) (C := #[.slice (some ⟨A8.heap.size, 0, none⟩) 3 3, .slice none 0 0, .slice none 0 0]) aggNorm (.tmp 6) (.tmp 31) ?_ ?_ A1.heap.size ?_ ?_ ?_ hz ?_ oV_one ?_); rfl; rfl; rfl; rfl; rfl; rfl; (intro Y hsY hGY hzY)))
            go_meet
            exact ⟨A1.heap.size, A8.heap.size, rfl, hn6, hg6, hgn, hsY, hR.grown hGY (fun e => by injection e with e; exact hgn e), hS.grown hGY hS.size (fun j e => by cases e; exact hn6)⟩
    · have hBx := below_al (Below.refl X2.drew.heap.size X2.drew) (Nat.le_refl _) (.cells #[.slice none 0 0, .slice none 0 0, .slice none 0 0] 26)
      have hz : Row oV (X2.drew.alloc (.cells #[.slice none 0 0, .slice none 0 0, .slice none 0 0] 26)) X2.drew.heap.size 26 [on, on, on] := Row.new _ _ rfl
      refine allocD (d := 6) (ob := (.cells #[.slice none 0 0, .slice none 0 0, .slice none 0 0] 26)) rfl rfl (by first | rfl | kernel_rfl) ?_
      have hn6 : X2.heap.size ≤ X2.drew.heap.size := hS.size
      generalize (X2.drew.alloc (.cells #[.slice none 0 0, .slice none 0 0, .slice none 0 0] 26)) = A10 at *
      replace hS := hS.trans (hBx.mono hS.size)
      refine hK.out _ _ hS fun _ => ?_
      clear hK
      simp only [List.setIfInBounds_toArray, List.set_cons_succ, List.set_cons_zero]
      refine headsT_ready (rs := [2]) (by kernel_rfl) (by simp) (AllReadyT.cons (by omega) rfl (fun K' hK => ?_) AllReadyT.nil)
      · refine callD (d := 26) (g := 42) (args := #[.agg (clA clOa), .agg (clA clOb)]) rfl rfl (by first | kernel_rfl | (simp [execOp, resolve, invoke, Act.eval]) | go_simp) ?_
        refine (rUnion _ clOa clOb).mono ?_
        rintro e A11 ⟨rfl, hBx⟩
        replace hz := hz.below hBx hz.lt
        replace hS := hS.trans (hBx.mono hS.size)
        refine ⟨_, rfl, hK.out _ _ hS fun _ => ?_⟩
        clear hK
        simp only [List.setIfInBounds_toArray, List.set_cons_succ, List.set_cons_zero]
        refine headsT_ready (rs := [3]) (by kernel_rfl) (by simp) (AllReadyT.cons (by omega) rfl (fun K' hK => ?_) AllReadyT.nil)
        · refine callD (d := 27) (g := 41) (args := #[.agg (clA (clOa.union clOb))]) rfl rfl (by first | kernel_rfl | (simp [execOp, resolve, invoke, Act.eval]) | go_simp) ?_
          refine (rNot _ (clOa.union clOb)).mono ?_
          rintro e A12 ⟨rfl, hBx⟩
          rw [compl_o]
          replace hz := hz.below hBx hz.lt
          replace hS := hS.trans (hBx.mono hS.size)
          refine ⟨_, rfl, hK.out _ _ hS fun _ => ?_⟩
          clear hK
          simp only [List.setIfInBounds_toArray, List.set_cons_succ, List.set_cons_zero]
          refine headsT_ready (rs := [6]) (by kernel_rfl) (by simp) (AllReadyT.cons (by omega) rfl (fun K' hK => ?_) AllReadyT.nil)
          · have hBx := below_al (Below.refl A12.heap.size A12) (Nat.le_refl _) (.cells #[.int .u64 (X clOo.a), .int .u64 (X clOo.b), .int .u64 (X clOo.c), .int .u64 (X clOo.d), .int .u64 (X clOa.a), .int .u64 (X clOa.b), .int .u64 (X clOa.c), .int .u64 (X clOa.d), .int .u64 (X clOb.a), .int .u64 (X clOb.b), .int .u64 (X clOb.c), .int .u64 (X clOb.d)] 80)
            have hR : RdK 4 clL (A12.alloc (.cells #[.int .u64 (X clOo.a), .int .u64 (X clOo.b), .int .u64 (X clOo.c), .int .u64 (X clOo.d), .int .u64 (X clOa.a), .int .u64 (X clOa.b), .int .u64 (X clOa.c), .int .u64 (X clOa.d), .int .u64 (X clOb.a), .int .u64 (X clOb.b), .int .u64 (X clOb.c), .int .u64 (X clOb.d)] 80)) (.slice (some ⟨A12.heap.size, 0, none⟩) 3 3) [clOo, clOa, clOb] := RdK.row (l := ([clOo, clOa, clOb] : List Cl)) (cs := clL clOo ++ (clL clOa ++ clL clOb)) (Row.new A12 (.cells #[.int .u64 (X clOo.a), .int .u64 (X clOo.b), .int .u64 (X clOo.c), .int .u64 (X clOo.d), .int .u64 (X clOa.a), .int .u64 (X clOa.b), .int .u64 (X clOa.c), .int .u64 (X clOa.d), .int .u64 (X clOb.a), .int .u64 (X clOb.b), .int .u64 (X clOb.c), .int .u64 (X clOb.d)] 80) rfl) rfl (fun x _ => rfl)
            refine valueD (d := 30) (v := .slice (some ⟨A12.heap.size, 0, none⟩) 3 3) (w' := A12.alloc (.cells #[.int .u64 (X clOo.a), .int .u64 (X clOo.b), .int .u64 (X clOo.c), .int .u64 (X clOo.d), .int .u64 (X clOa.a), .int .u64 (X clOa.b), .int .u64 (X clOa.c), .int .u64 (X clOa.d), .int .u64 (X clOb.a), .int .u64 (X clOb.b), .int .u64 (X clOb.c), .int .u64 (X clOb.d)] 80)) rfl rfl (by first | rfl | kernel_rfl | (simp [execOp, go_sem]; done)) ?_
            have hg6 : X2.heap.size ≤ A12.heap.size := hS.size
            have hgn : A12.heap.size ≠ X2.drew.heap.size := fun e => by have := hz.lt; omega
            generalize (A12.alloc (.cells #[.int .u64 (X clOo.a), .int .u64 (X clOo.b), .int .u64 (X clOo.c), .int .u64 (X clOo.d), .int .u64 (X clOa.a), .int .u64 (X clOa.b), .int .u64 (X clOa.c), .int .u64 (X clOa.d), .int .u64 (X clOb.a), .int .u64 (X clOb.b), .int .u64 (X clOb.c), .int .u64 (X clOb.d)] 80)) = A13 at *
            replace hz := hz.below hBx hz.lt
            have hgl : A12.heap.size < A13.heap.size := by obtain ⟨b, o, he, _, _, hl⟩ := hR.elem 0 (by simp); cases he; exact hl
            replace hS := hS.trans (hBx.mono hS.size)
            refine hK.out _ _ hS fun _ => ?_
            clear hK
            simp only [List.setIfInBounds_toArray, List.set_cons_succ, List.set_cons_zero]
            refine headsT_takeD (i := 7) (d := 31) (v := .agg #[.slice (some ⟨A12.heap.size, 0, none⟩) 3 3, .slice none 0 0, .slice none 0 0]) (by kernel_rfl) rfl rfl (by omega) (by kernel_rfl) (by kernel_rfl) (fun c a w h => h) (yieldsIf_op rfl (fun w => by first | rfl | kernel_rfl | (go_simp; done))) hS ?_
            simp only [List.setIfInBounds_toArray, List.set_cons_succ, List.set_cons_zero]
            refine headsT_tail (by kernel_rfl) ?_
            simp only [List.drop]
            go_wp2_with (((with_reducible refine store_agg (f := oV) (l := [on, on, on]) (l' := [osl A12.heap.size 3 3, on, on]) (t := 26) (C := #[.slice (some ⟨A12.heap.size, 0, none⟩) 3 3, .slice none 0 0, .slice none 0 0]) aggNorm (.tmp 6) (.tmp 31) ?_ ?_ X2.drew.heap.size ?_ ?_ ?_ hz ?_ oV_one ?_); rfl; rfl; rfl; rfl; rfl; rfl; (intro Y hsY hGY hzY)))
            go_meet
            exact ⟨X2.drew.heap.size, A12.heap.size, rfl, hn6, hg6, hgn, hsY, hR.grown hGY (fun e => by injection e with e; exact hgn e), hS.grown hGY hS.size (fun j e => by cases e; exact hn6)⟩
  obtain ⟨nb, g, rfl, hnb, hg, hgn, hrow, hR, hb⟩ := hcut
  have hlr : w.heap.size < X2.heap.size := r0.lt
  have HI : Hid (∀ i (h : i < l.length), ∃ b o, p = some ⟨b, o, none⟩ ∧ ∀ X, Below X2.heap.size X2 X → X.cell? ⟨b, o + i, none⟩ = some (.int .u8 (l[i].toNat : Int))) := Lib.hid fun i hi => by
    rcases HV.out with ⟨_, _, e0⟩ | ⟨b, o, cap, he, hc, hat, hbl⟩
    · rw [e0] at hi; simp at hi
    · cases he
      refine ⟨b, o, rfl, fun X hX => ?_⟩
      rw [hX.cell (p := ⟨b, o + i, none⟩) (by show b < X2.heap.size; omega), hB.cell (p := ⟨b, o + i, none⟩) hbl, hat i hi, List.getElem?_eq_getElem hi]
      rfl
  obtain ⟨B, hBdef⟩ : ∃ B, B = wc.heap.size := ⟨_, rfl⟩
  have HM0 : MI X2 wc l B nb g 0 0 none none 0 0 [] := by
    subst hBdef
    have hgl : g < wc.heap.size := by obtain ⟨b, o, he, _, _, hl⟩ := hR.elem 0 (by simp); cases he; exact hl
    exact ⟨hrow, hR, Own.nil _ _ _, rfl, fun i hi => by simp at hi, Own.nil _ _ _, hb, hnb, hrow.lt, hgl, hgn, Nat.le_refl _⟩
  have HR0 := Lib.hid r0
  have HB0 := Lib.hid hB
  clear r0 s4 s5 hB hls4 hls5 hrow hR hb hnb hgn hBdef HV
  replace HM0 := Lib.hid HM0
  have HG := Lib.hid hg
  clear hg
  go_upto_region 7 with (fail)
  go_upto_region 8 with (fail)
  go_loopw [7, 8, 9, 10] (fun s7 s8 s9 s10 wr => ∃ (s : Nat) (pr pe : Option Addr) (kr ke : Nat) (us : List OC), s ≤ sn ∧ s7 = .int .i64 s ∧ Hid (MI X2 wr l B nb g s s pr pe kr ke us)) (fun i _ _ _ _ => sn - (intOf i).toNat)
  case atStart => exact ⟨0, none, none, 0, 0, [], by omega, rfl, HM0⟩
  case round =>
    obtain ⟨s, pr, pe, kr, ke, us, hsl, rfl, HM⟩ := hrel
    by_cases hlt : s < sn
    · have hq : (s : Int) < (sn : Int) := by omega
      go_upto_region 12 with (fail)
      have hO0 : OwnK 3 ceL (wr.alloc (.cells #[] 75)) wr.heap.size 75 (.slice (some ⟨wr.heap.size, 0, none⟩) 0 0) (mkRow l s 0) := OwnK.new0 wr wr.heap.size 75 (Nat.le_refl _)
      have hb0 := below_al (Below.refl wr.heap.size wr) (Nat.le_refl _) (.cells #[] 75)
      generalize (wr.alloc (.cells #[] 75)) = wA at *
      go_loopw [8, 9, 10] (fun s8 s9 s10 wq => ∃ (k : Nat) (p8 : Option Addr) (c8 : Nat), k ≤ 3 ∧ s9 = .int .i64 k ∧ s8 = .slice p8 k c8 ∧ OwnK 3 ceL wq wr.heap.size 75 (.slice p8 k c8) (mkRow l s k) ∧ Below wr.heap.size wr wq) (fun _ i _ _ => 3 - (intOf i).toNat)
      case atStart => exact ⟨0, _, 0, by omega, rfl, rfl, hO0, hb0⟩
      case round =>
        clear hO0 hb0
        obtain ⟨k, p8, c8, hk3, rfl, rfl, hO, hb2⟩ := hrel
        by_cases hkt : k < 3
        · have hq2 : (k : Int) < 3 := by omega
          obtain ⟨m, hm⟩ : ∃ m : Nat, m = 1 + 4 * s + k := ⟨_, rfl⟩
          have a5 : 1 + 4 * (s : Int) + (k : Int) = (m : Int) := by omega
          replace hm := Lib.hid hm
          have HMR := Lib.hid (mkRow_succ l s k)
          have hms : Hid (mkStates l = sn) := Lib.hid hsn
          by_cases hin : m < l.length
          · have hq3 : (m : Int) < (l.length : Int) := by omega
            have hx : Hid (mkX l s k = (l[m]'hin).toNat) := Lib.hid (by unfold mkX; rw [← hm.out, if_pos hin, List.getElem?_eq_getElem hin]; rfl)
            obtain ⟨b, o, rfl, hcl⟩ := HI.out m hin
            have hc := hcl _ (HM.out.mono hb2).below
            clear hcl
            have hyl : (l[m]'hin).toNat < 256 := (l[m]'hin).toNat_lt
            generalize (l[m]'hin).toNat = y at *
            have hw2 : wrap64 (y : Int) = (y : Int) := by unfold wrap64; omega
            go_wp2_with fail
            clear hc
            refine (rCell _ y sn hyl hst).mono ?_
            rintro e w5 ⟨rfl, hb5⟩
            replace hO := hO.below' hb5
            have hb6 := hb2.trans (hb5.mono hb2.size)
            clear hb5 hb2
            have hln := mkRow_length l s k
            have hr : Hid (mkRow l s k ++ [mkCell y sn] = mkRow l s (k + 1)) := Lib.hid (by rw [HMR.out, hx.out, hms.out])
            replace hO := Lib.hid hO
            go_wp2_with (at_builtin; (with_reducible refine append_k eltCe (by decide) ceL_len (.tmp 59) (.tmp 63) ?_ ?_ ?_ hO.out (mkCell y sn) (ceA (mkCell y sn)) ?_ 75 ?_ ?_ ?_ ?_ (mkRow l s (k + 1)) ?_ ?_); rfl; rfl; rfl; rfl; rfl; (rw [mkRow_length]; omega); (rw [mkRow_length]; omega); (exact hb6.size); (exact hr.out); (intro p9 c9 w6 hO6 hB6 hG6))
            go_roundw
            case rel => exact ⟨k + 1, p9, c9, by omega, by go_num, by rw [mkRow_length], by rw [mkRow_length] at hO6; exact hO6, hb6.trans hB6⟩
            case measure => simp [intOf] <;> omega
          · have hq3 : ¬ (m : Int) < (l.length : Int) := by omega
            have hx : Hid (mkX l s k = 0) := Lib.hid (by unfold mkX; rw [← hm.out, if_neg hin])
            go_wp2_with fail
            refine (rCell _ 0 sn (by omega) hst).mono ?_
            rintro e w5 ⟨rfl, hb5⟩
            replace hO := hO.below' hb5
            have hb6 := hb2.trans (hb5.mono hb2.size)
            clear hb5 hb2
            have hln := mkRow_length l s k
            have hr : Hid (mkRow l s k ++ [mkCell 0 sn] = mkRow l s (k + 1)) := Lib.hid (by rw [HMR.out, hx.out, hms.out])
            replace hO := Lib.hid hO
            go_wp2_with (at_builtin; (with_reducible refine append_k eltCe (by decide) ceL_len (.tmp 59) (.tmp 63) ?_ ?_ ?_ hO.out (mkCell 0 sn) (ceA (mkCell 0 sn)) ?_ 75 ?_ ?_ ?_ ?_ (mkRow l s (k + 1)) ?_ ?_); rfl; rfl; rfl; rfl; rfl; (rw [mkRow_length]; omega); (rw [mkRow_length]; omega); (exact hb6.size); (exact hr.out); (intro p9 c9 w6 hO6 hB6 hG6))
            go_roundw
            case rel => exact ⟨k + 1, p9, c9, by omega, by go_num, by rw [mkRow_length], by rw [mkRow_length] at hO6; exact hO6, hb6.trans hB6⟩
            case measure => simp [intOf] <;> omega
        · obtain rfl : k = 3 := by omega
          have hM3 := HM.out.mono hb2
          have hO3 := hO.mono (HM.out.lo.2.2.2.2)
          have hlo : nb < B ∧ B ≤ wr.heap.size := ⟨hM3.lo.2.1, hM3.lo.2.2.2.2⟩
          have c1 : wr.cell? ⟨nb, 1, none⟩ = some (.slice pr s kr) := by rw [hM3.row.cell?]; rfl
          have f1 := hM3.row.frozen 1
          have hus := hM3.len
          have hlen : (us ++ [slO p8 3 c8]).length = s + 1 := by rw [List.length_append, hus]; rfl
          have HM3 := Lib.hid hM3
          have HLN := Lib.hid hlen
          have HUS := Lib.hid hus
          clear hM3 hlen hus hO hb2 HM
          rw [show ((3 : Nat) : Int) = 3 from rfl]
          go_upto_region 19 with (at_builtin; (with_reducible refine append_one eltRow (.tmp 66) (.tmp 68) ?_ ?_ oV_one ?_ HM3.out.own (slO p8 3 c8) _ ?_ _ ?_ ?_ ?_ ?_ (us ++ [slO p8 3 c8]) ?_ ?_); rfl; rfl; rfl; rfl; rfl; (rw [HUS.out]; omega); (rw [HUS.out]; omega); (exact hlo.2); rfl; (intro p3 c3 w3 hO4 hB4 hG4); (rw [HLN.out] at hO4 ⊢); (have e9 := (hB4.cell (p := ⟨nb, 1, none⟩) hlo.1).trans c1); (have f9 := (hB4.frozen (p := ⟨nb, 1, none⟩) hlo.1).trans f1))
          have hM5 := HM3.out.cells (slO p8 3 c8) hO3 _ hO4 hG4
          clear hO4 hB4 hG4 e9 f9 c1 f1 hO3 HM3 HLN HUS
          generalize (w3.setCell ⟨nb, 1, none⟩ (.slice p3 (s + 1) c3)) = W5 at *
          have hM5d := hM5.mono ((Below.refl W5.heap.size W5).drew)
          obtain ⟨m, hm⟩ : ∃ m : Nat, m = 4 + 4 * s := ⟨_, rfl⟩
          have a5 : 4 + 4 * (s : Int) = (m : Int) := by omega
          have hmb : (m : Int) ≤ 100 := by omega
          replace hm := Lib.hid hm
          by_cases hin : m < l.length
          · have hq3 : (m : Int) < (l.length : Int) := by omega
            have hq4 : ¬ (l.length : Int) ≤ (m : Int) := by omega
            obtain ⟨b, o, rfl, hcl⟩ := HI.out m hin
            have hee : Hid (mkEnd l s = decide ((l[m]'hin).toNat % 4 ≠ 0)) := Lib.hid (by unfold mkEnd; rw [← hm.out, if_pos hin, List.getElem?_eq_getElem hin]; rfl)
            have hyl : (l[m]'hin).toNat < 256 := (l[m]'hin).toNat_lt
            replace hcl := Lib.hid hcl
            generalize (l[m]'hin).toNat = y at *
            have z1 : (y : Int).tmod 4 = ((y % 4 : Nat) : Int) := by rw [Int.tmod_eq_emod_of_nonneg (by omega)]; omega
            have z2 : (y : Int) % 4 = ((y % 4 : Nat) : Int) := by omega
            generalize y % 4 = z at *
            replace hee : Hid (mkEnd l s = ((z : Int) != 0)) := Lib.hid (by rw [hee.out]; by_cases h0 : z = 0 <;> simp [h0])
            refine region_headsT (S := fun X => Below X2.heap.size X2 X ∧ Row oV X nb 26 [osl g 3 3, slO p3 (s + 1) c3, slO pe s ke]) 20 rfl (by kernel_rfl) ⟨hM5.below.drew, hM5.row⟩ fun hS => ?_
            refine headsT_takeD (i := 0) (d := 71) (v := .pointer (some ⟨nb, 2, none⟩)) (by kernel_rfl) rfl rfl (by omega) (by kernel_rfl) (by kernel_rfl) (fun c a w h => h) (yieldsIf_op rfl (fun w => by first | rfl | kernel_rfl | (go_simp; done))) hS ?_
            simp only [List.setIfInBounds_toArray, List.set_cons_succ, List.set_cons_zero]
            refine headsT_takeD (i := 1) (d := 72) (v := .slice pe s ke) (by kernel_rfl) rfl rfl (by omega) (by kernel_rfl) (by kernel_rfl) (fun c a w h => h) (.inl ⟨by first | rfl | kernel_rfl, fun W' h => by have q2 : W'.cell? ⟨nb, 2, none⟩ = some (.slice pe s ke) := (by rw [h.2.cell?]; rfl); go_simp⟩) hS ?_
            simp only [List.setIfInBounds_toArray, List.set_cons_succ, List.set_cons_zero]
            refine headsT_takeD (i := 2) (d := 73) (v := .int .i64 s) (by kernel_rfl) rfl rfl (by omega) (by kernel_rfl) (by kernel_rfl) (fun c a w h => h) (yieldsIf_op rfl (fun w => by first | rfl | kernel_rfl | (go_simp; done))) hS ?_
            simp only [List.setIfInBounds_toArray, List.set_cons_succ, List.set_cons_zero]
            refine headsT_takeD (i := 3) (d := 74) (v := .int .i64 (4 * (s : Int))) (by kernel_rfl) rfl rfl (by omega) (by kernel_rfl) (by kernel_rfl) (fun c a w h => h) (yieldsIf_op rfl (fun w => by go_simp <;> exact wI' _ (by omega) (by omega))) hS ?_
            simp only [List.setIfInBounds_toArray, List.set_cons_succ, List.set_cons_zero]
            refine headsT_takeD (i := 4) (d := 75) (v := .int .i64 (m : Int)) (by kernel_rfl) rfl rfl (by omega) (by kernel_rfl) (by kernel_rfl) (fun c a w h => h) (yieldsIf_op rfl (fun w => by go_simp <;> exact wI' _ (by omega) (by omega))) hS ?_
            simp only [List.setIfInBounds_toArray, List.set_cons_succ, List.set_cons_zero]
            refine headsT_takeD (i := 5) (d := 76) (v := .slice (some ⟨b, o, none⟩) l.length c) (by kernel_rfl) rfl rfl (by omega) (by kernel_rfl) (by kernel_rfl) (fun c a w h => h) (yieldsIf_op rfl (fun w => by first | rfl | kernel_rfl | (go_simp; done))) hS ?_
            simp only [List.setIfInBounds_toArray, List.set_cons_succ, List.set_cons_zero]
            refine headsT_takeD (i := 6) (d := 77) (v := .int .i64 (l.length : Int)) (by kernel_rfl) rfl rfl (by omega) (by kernel_rfl) (by kernel_rfl) (fun c a w h => h) (yieldsIf_op rfl (fun w => by go_simp <;> exact wI' _ (by omega) (by omega))) hS ?_
            simp only [List.setIfInBounds_toArray, List.set_cons_succ, List.set_cons_zero]
            refine headsT_takeD (i := 7) (d := 78) (v := .bool false) (by kernel_rfl) rfl rfl (by omega) (by kernel_rfl) (by kernel_rfl) (fun c a w h => h) (yieldsIf_op rfl (fun w => by go_simp <;> exact wI' _ (by omega) (by omega))) hS ?_
            simp only [List.setIfInBounds_toArray, List.set_cons_succ, List.set_cons_zero]
            refine headsT_takeD (i := 8) (d := 79) (v := .bool false) (by kernel_rfl) rfl rfl (by omega) (by kernel_rfl) (by kernel_rfl) (fun c a w h => h) (yieldsIf_op rfl (fun w => by first | rfl | kernel_rfl | (go_simp; done))) hS ?_
            simp only [List.setIfInBounds_toArray, List.set_cons_succ, List.set_cons_zero]
            refine headsT_takeD (i := 9) (d := 80) (v := .slice (some ⟨b, o, none⟩) l.length c) (by kernel_rfl) rfl rfl (by omega) (by kernel_rfl) (by kernel_rfl) (fun c a w h => h) (yieldsIf_op rfl (fun w => by first | rfl | kernel_rfl | (go_simp; done))) hS ?_
            simp only [List.setIfInBounds_toArray, List.set_cons_succ, List.set_cons_zero]
            refine headsT_takeD (i := 10) (d := 81) (v := .int .i64 s) (by kernel_rfl) rfl rfl (by omega) (by kernel_rfl) (by kernel_rfl) (fun c a w h => h) (yieldsIf_op rfl (fun w => by first | rfl | kernel_rfl | (go_simp; done))) hS ?_
            simp only [List.setIfInBounds_toArray, List.set_cons_succ, List.set_cons_zero]
            refine headsT_takeD (i := 11) (d := 82) (v := .int .i64 (4 * (s : Int))) (by kernel_rfl) rfl rfl (by omega) (by kernel_rfl) (by kernel_rfl) (fun c a w h => h) (yieldsIf_op rfl (fun w => by go_simp <;> exact wI' _ (by omega) (by omega))) hS ?_
            simp only [List.setIfInBounds_toArray, List.set_cons_succ, List.set_cons_zero]
            refine headsT_takeD (i := 12) (d := 83) (v := .int .i64 (m : Int)) (by kernel_rfl) rfl rfl (by omega) (by kernel_rfl) (by kernel_rfl) (fun c a w h => h) (yieldsIf_op rfl (fun w => by go_simp <;> exact wI' _ (by omega) (by omega))) hS ?_
            simp only [List.setIfInBounds_toArray, List.set_cons_succ, List.set_cons_zero]
            refine headsT_takeD (i := 13) (d := 84) (v := .pointer (some ⟨b, o + m, none⟩)) (by kernel_rfl) rfl rfl (by omega) (by kernel_rfl) (by kernel_rfl) (fun c a w h => h) (yieldsIf_op rfl (fun w => by go_simp <;> exact wI' _ (by omega) (by omega))) hS ?_
            simp only [List.setIfInBounds_toArray, List.set_cons_succ, List.set_cons_zero]
            refine headsT_takeD (i := 14) (d := 85) (v := .int .u8 (y : Int)) (by kernel_rfl) rfl rfl (by omega) (by kernel_rfl) (by kernel_rfl) (fun c a w h => h) (.inl ⟨by first | rfl | kernel_rfl, fun W' h => by have q2 := hcl.out W' h.1; go_simp⟩) hS ?_
            simp only [List.setIfInBounds_toArray, List.set_cons_succ, List.set_cons_zero]
            refine headsT_takeD (i := 15) (d := 86) (v := .int .u8 (z : Int)) (by kernel_rfl) rfl rfl (by omega) (by kernel_rfl) (by kernel_rfl) (fun c a w h => h) (yieldsIf_op rfl (fun w => by go_simp <;> exact wI' _ (by omega) (by omega))) hS ?_
            simp only [List.setIfInBounds_toArray, List.set_cons_succ, List.set_cons_zero]
            refine headsT_takeD (i := 16) (d := 87) (v := .bool ((z : Int) != 0)) (by kernel_rfl) rfl rfl (by omega) (by kernel_rfl) (by kernel_rfl) (fun c a w h => h) (yieldsIf_op rfl (fun w => by go_simp <;> exact wI' _ (by omega) (by omega))) hS ?_
            simp only [List.setIfInBounds_toArray, List.set_cons_succ, List.set_cons_zero]
            refine headsT_takeD (i := 17) (d := 88) (v := .bool ((z : Int) != 0)) (by kernel_rfl) rfl rfl (by omega) (by kernel_rfl) (by kernel_rfl) (fun c a w h => h) (yieldsIf_op rfl (fun w => by first | rfl | kernel_rfl | (go_simp; done))) hS ?_
            simp only [List.setIfInBounds_toArray, List.set_cons_succ, List.set_cons_zero]
            refine headsT_ready (rs := [18]) (by kernel_rfl) (by simp) (AllReadyT.cons (by omega) rfl (fun K' hK => ?_) AllReadyT.nil)
            have hba := below_al (Below.refl W5.drew.heap.size W5.drew) (Nat.le_refl _) (.cells #[.bool ((z : Int) != 0)] 4)
            refine valueD (d := 89) (v := .slice (some ⟨W5.drew.heap.size, 0, none⟩) 1 1) (w' := W5.drew.alloc (.cells #[.bool ((z : Int) != 0)] 4)) rfl rfl (by first | rfl | kernel_rfl | (simp [execOp, go_sem]; done)) ?_
            refine hK.out _ _ (And.intro (hS.1.trans (hba.mono hS.1.size)) (hS.2.below hba hS.2.lt)) fun _ => ?_
            clear hK hba
            simp only [List.setIfInBounds_toArray, List.set_cons_succ, List.set_cons_zero]
            refine headsT_ready (rs := [19]) (by kernel_rfl) (by simp) (AllReadyT.cons (by omega) rfl (fun K' hK => ?_) AllReadyT.nil)
            refine step_append_one (w := W5.drew) (l := mkEnds l s) (v := .slice pe s ke) eltBo (.tmp 72) (.tmp 89) 24 rfl rfl rfl bV_one' rfl hM5d.ends ((z : Int) != 0) (.bool ((z : Int) != 0)) rfl 4 rfl (by rw [mkEnds_length]; omega) (by rw [mkEnds_length]; omega) hM5d.lo.2.2.2.2 (mkEnds l (s + 1)) (by rw [mkEnds_succ, hee.out]) ?_
            intro p6 k6 w6 hO6 hG6 _
            rw [mkEnds_length] at hO6
            have hF := hM5d.flags _ hO6 hG6
            refine hK.out _ _ (And.intro hF.1.2 hF.1.1) fun _ => ?_
            clear hK hS
            simp only [Act.put, mkEnds_length, List.setIfInBounds_toArray]
            refine headsT_tail (by kernel_rfl) ?_
            simp only [List.drop]
            have f2 := hF.1.1.frozen 2
            have g2 : w6.cell? ⟨nb, 2, none⟩ = some (.slice pe s ke) := by rw [hF.1.1.cell?]; rfl
            have HF := Lib.hid hF.2
            clear hF hO6 hG6 hM5 hM5d
            go_wp2_with fail
            go_roundw
            case rel => exact ⟨s + 1, p3, p6, c3, k6, us ++ [slO p8 3 c8], by omega, by go_num, HF⟩
            case measure => simp [intOf] <;> omega
          · have hq3 : ¬ (m : Int) < (l.length : Int) := by omega
            have hq4 : (l.length : Int) ≤ (m : Int) := by omega
            have hee : Hid (mkEnd l s = true) := Lib.hid (by unfold mkEnd; rw [← hm.out, if_neg hin])
            refine region_headsT (S := fun X => Below X2.heap.size X2 X ∧ Row oV X nb 26 [osl g 3 3, slO p3 (s + 1) c3, slO pe s ke]) 20 rfl (by kernel_rfl) ⟨hM5.below.drew, hM5.row⟩ fun hS => ?_
            refine headsT_takeD (i := 0) (d := 71) (v := .pointer (some ⟨nb, 2, none⟩)) (by kernel_rfl) rfl rfl (by omega) (by kernel_rfl) (by kernel_rfl) (fun c a w h => h) (yieldsIf_op rfl (fun w => by first | rfl | kernel_rfl | (go_simp; done))) hS ?_
            simp only [List.setIfInBounds_toArray, List.set_cons_succ, List.set_cons_zero]
            refine headsT_takeD (i := 1) (d := 72) (v := .slice pe s ke) (by kernel_rfl) rfl rfl (by omega) (by kernel_rfl) (by kernel_rfl) (fun c a w h => h) (.inl ⟨by first | rfl | kernel_rfl, fun W' h => by have q2 : W'.cell? ⟨nb, 2, none⟩ = some (.slice pe s ke) := (by rw [h.2.cell?]; rfl); go_simp⟩) hS ?_
            simp only [List.setIfInBounds_toArray, List.set_cons_succ, List.set_cons_zero]
            refine headsT_takeD (i := 2) (d := 73) (v := .int .i64 s) (by kernel_rfl) rfl rfl (by omega) (by kernel_rfl) (by kernel_rfl) (fun c a w h => h) (yieldsIf_op rfl (fun w => by first | rfl | kernel_rfl | (go_simp; done))) hS ?_
            simp only [List.setIfInBounds_toArray, List.set_cons_succ, List.set_cons_zero]
            refine headsT_takeD (i := 3) (d := 74) (v := .int .i64 (4 * (s : Int))) (by kernel_rfl) rfl rfl (by omega) (by kernel_rfl) (by kernel_rfl) (fun c a w h => h) (yieldsIf_op rfl (fun w => by go_simp <;> exact wI' _ (by omega) (by omega))) hS ?_
            simp only [List.setIfInBounds_toArray, List.set_cons_succ, List.set_cons_zero]
            refine headsT_takeD (i := 4) (d := 75) (v := .int .i64 (m : Int)) (by kernel_rfl) rfl rfl (by omega) (by kernel_rfl) (by kernel_rfl) (fun c a w h => h) (yieldsIf_op rfl (fun w => by go_simp <;> exact wI' _ (by omega) (by omega))) hS ?_
            simp only [List.setIfInBounds_toArray, List.set_cons_succ, List.set_cons_zero]
            refine headsT_takeD (i := 5) (d := 76) (v := .slice p l.length c) (by kernel_rfl) rfl rfl (by omega) (by kernel_rfl) (by kernel_rfl) (fun c a w h => h) (yieldsIf_op rfl (fun w => by first | rfl | kernel_rfl | (go_simp; done))) hS ?_
            simp only [List.setIfInBounds_toArray, List.set_cons_succ, List.set_cons_zero]
            refine headsT_takeD (i := 6) (d := 77) (v := .int .i64 (l.length : Int)) (by kernel_rfl) rfl rfl (by omega) (by kernel_rfl) (by kernel_rfl) (fun c a w h => h) (yieldsIf_op rfl (fun w => by go_simp <;> exact wI' _ (by omega) (by omega))) hS ?_
            simp only [List.setIfInBounds_toArray, List.set_cons_succ, List.set_cons_zero]
            refine headsT_takeD (i := 7) (d := 78) (v := .bool true) (by kernel_rfl) rfl rfl (by omega) (by kernel_rfl) (by kernel_rfl) (fun c a w h => h) (yieldsIf_op rfl (fun w => by go_simp <;> exact wI' _ (by omega) (by omega))) hS ?_
            simp only [List.setIfInBounds_toArray, List.set_cons_succ, List.set_cons_zero]
            refine headsT_takeD (i := 8) (d := 79) (v := .bool true) (by kernel_rfl) rfl rfl (by omega) (by kernel_rfl) (by kernel_rfl) (fun c a w h => h) (yieldsIf_op rfl (fun w => by first | rfl | kernel_rfl | (go_simp; done))) hS ?_
            simp only [List.setIfInBounds_toArray, List.set_cons_succ, List.set_cons_zero]
            refine headsT_takeD (i := 9) (d := 80) (v := undef) (by kernel_rfl) rfl rfl (by omega) (by kernel_rfl) (by kernel_rfl) (fun c a w h => h) (yieldsIf_skip rfl) hS ?_
            simp only [List.setIfInBounds_toArray, List.set_cons_succ, List.set_cons_zero]
            refine headsT_takeD (i := 10) (d := 81) (v := undef) (by kernel_rfl) rfl rfl (by omega) (by kernel_rfl) (by kernel_rfl) (fun c a w h => h) (yieldsIf_skip rfl) hS ?_
            simp only [List.setIfInBounds_toArray, List.set_cons_succ, List.set_cons_zero]
            refine headsT_takeD (i := 11) (d := 82) (v := undef) (by kernel_rfl) rfl rfl (by omega) (by kernel_rfl) (by kernel_rfl) (fun c a w h => h) (yieldsIf_skip rfl) hS ?_
            simp only [List.setIfInBounds_toArray, List.set_cons_succ, List.set_cons_zero]
            refine headsT_takeD (i := 12) (d := 83) (v := undef) (by kernel_rfl) rfl rfl (by omega) (by kernel_rfl) (by kernel_rfl) (fun c a w h => h) (yieldsIf_skip rfl) hS ?_
            simp only [List.setIfInBounds_toArray, List.set_cons_succ, List.set_cons_zero]
            refine headsT_takeD (i := 13) (d := 84) (v := undef) (by kernel_rfl) rfl rfl (by omega) (by kernel_rfl) (by kernel_rfl) (fun c a w h => h) (yieldsIf_skip rfl) hS ?_
            simp only [List.setIfInBounds_toArray, List.set_cons_succ, List.set_cons_zero]
            refine headsT_takeD (i := 14) (d := 85) (v := undef) (by kernel_rfl) rfl rfl (by omega) (by kernel_rfl) (by kernel_rfl) (fun c a w h => h) (yieldsIf_skip rfl) hS ?_
            simp only [List.setIfInBounds_toArray, List.set_cons_succ, List.set_cons_zero]
            refine headsT_takeD (i := 15) (d := 86) (v := undef) (by kernel_rfl) rfl rfl (by omega) (by kernel_rfl) (by kernel_rfl) (fun c a w h => h) (yieldsIf_skip rfl) hS ?_
            simp only [List.setIfInBounds_toArray, List.set_cons_succ, List.set_cons_zero]
            refine headsT_takeD (i := 16) (d := 87) (v := undef) (by kernel_rfl) rfl rfl (by omega) (by kernel_rfl) (by kernel_rfl) (fun c a w h => h) (yieldsIf_skip rfl) hS ?_
            simp only [List.setIfInBounds_toArray, List.set_cons_succ, List.set_cons_zero]
            refine headsT_takeD (i := 17) (d := 88) (v := .bool true) (by kernel_rfl) rfl rfl (by omega) (by kernel_rfl) (by kernel_rfl) (fun c a w h => h) (yieldsIf_op rfl (fun w => by first | rfl | kernel_rfl | (go_simp; done))) hS ?_
            simp only [List.setIfInBounds_toArray, List.set_cons_succ, List.set_cons_zero]
            refine headsT_ready (rs := [18]) (by kernel_rfl) (by simp) (AllReadyT.cons (by omega) rfl (fun K' hK => ?_) AllReadyT.nil)
            have hba := below_al (Below.refl W5.drew.heap.size W5.drew) (Nat.le_refl _) (.cells #[.bool true] 4)
            refine valueD (d := 89) (v := .slice (some ⟨W5.drew.heap.size, 0, none⟩) 1 1) (w' := W5.drew.alloc (.cells #[.bool true] 4)) rfl rfl (by first | rfl | kernel_rfl | (simp [execOp, go_sem]; done)) ?_
            refine hK.out _ _ (And.intro (hS.1.trans (hba.mono hS.1.size)) (hS.2.below hba hS.2.lt)) fun _ => ?_
            clear hK hba
            simp only [List.setIfInBounds_toArray, List.set_cons_succ, List.set_cons_zero]
            refine headsT_ready (rs := [19]) (by kernel_rfl) (by simp) (AllReadyT.cons (by omega) rfl (fun K' hK => ?_) AllReadyT.nil)
            refine step_append_one (w := W5.drew) (l := mkEnds l s) (v := .slice pe s ke) eltBo (.tmp 72) (.tmp 89) 24 rfl rfl rfl bV_one' rfl hM5d.ends true (.bool true) rfl 4 rfl (by rw [mkEnds_length]; omega) (by rw [mkEnds_length]; omega) hM5d.lo.2.2.2.2 (mkEnds l (s + 1)) (by rw [mkEnds_succ, hee.out]) ?_
            intro p6 k6 w6 hO6 hG6 _
            rw [mkEnds_length] at hO6
            have hF := hM5d.flags _ hO6 hG6
            refine hK.out _ _ (And.intro hF.1.2 hF.1.1) fun _ => ?_
            clear hK hS
            simp only [Act.put, mkEnds_length, List.setIfInBounds_toArray]
            refine headsT_tail (by kernel_rfl) ?_
            simp only [List.drop]
            have f2 := hF.1.1.frozen 2
            have g2 : w6.cell? ⟨nb, 2, none⟩ = some (.slice pe s ke) := by rw [hF.1.1.cell?]; rfl
            have HF := Lib.hid hF.2
            clear hF hO6 hG6 hM5 hM5d
            go_wp2_with fail
            go_roundw
            case rel => exact ⟨s + 1, p3, p6, c3, k6, us ++ [slO p8 3 c8], by omega, by go_num, HF⟩
            case measure => simp [intOf] <;> omega
    · obtain rfl : s = sn := by omega
      have hM := HM.out
      have hwB : w.heap.size < B := by have := hM.lo.1; have := hM.lo.2.1; omega
      have hr0 := HR0.out.below hM.below hlr
      have hBf := HB0.out.trans (hM.below.mono (by omega))
      have hrow := hM.row
      go_wp2_with (first
        | ((with_reducible refine load_agg (f := oV) (l := [osl g 3 3, slO pr s kr, slO pe s ke]) (C := #[.slice (some ⟨g, 0, none⟩) 3 3, .slice pr s kr, .slice pe s ke]) aggNorm (.tmp 6) ?_ ?_ nb 0 ?_ hrow.at rfl ?_); rfl; rfl; rfl)
        | ((with_reducible refine store_agg (f := oV) (l := [on, on, on]) (l' := [osl g 3 3, slO pr s kr, slO pe s ke]) (t := 26) (C := #[.slice (some ⟨g, 0, none⟩) 3 3, .slice pr s kr, .slice pe s ke]) aggNorm (.tmp 2) (.tmp 92) ?_ ?_ w.heap.size ?_ ?_ ?_ hr0 ?_ oV_one ?_); rfl; rfl; rfl; rfl; rfl; rfl; (intro Y hsY hGY hzY)))
      refine bodyPost_ret (v := .agg #[.slice (some ⟨g, 0, none⟩) 3 3, .slice pr s kr, .slice pe s ke]) (results_agg (f := oV) (l := [osl g 3 3, slO pr s kr, slO pe s ke]) rfl _ aggNorm w.heap.size 0 rfl hsY.at) rfl ?_
      have e1 : (made l).rows.length = s := by show (mkRows l (mkStates l)).length = s; rw [mkRows_length, hsn]
      have e2 : (made l).ends.length = s := by show (mkEnds l (mkStates l)).length = s; rw [mkEnds_length, hsn]
      rw [e1, e2]
      have hown := Own_far hM.own hwB hGY
      have hends := Own_far hM.ends hwB hGY
      refine ⟨some ⟨g, 0, none⟩, pr, pe, 3, kr, ke, rfl, ⟨_, _, _, rfl, hM.cls.grown hGY (fun e => by injection e with e; have := HG.out; omega), ?_, ?_⟩, hBf.grown hGY hBf.size (fun j e => by cases e; exact Nat.le_refl _)⟩
      · have er : (made l).rows = mkRows l s := by show mkRows l (mkStates l) = _; rw [hsn]
        rw [er]
        have hus := hM.len
        rcases hown.rd with ⟨q, hq1, hq2⟩ | ⟨b, o, cap, hq1, hc, hat, hbl⟩
        · subst hq2
          have : s = 0 := hus.symm
          omega
        · injection hq1 with hq1 hq2 hq3
          subst hq1; subst hq3
          refine .inr ⟨b, o, kr, by rw [mkRows_length], by rw [mkRows_length, ← hus]; exact hc, fun i hi => ?_, hbl⟩
          rw [mkRows_length] at hi
          refine ⟨oV (us[i]'(by omega)), by rw [hat i (by omega), List.getElem?_eq_getElem (by omega)]; rfl, ?_⟩
          have hg2 : (mkRows l s)[i]'(by rw [mkRows_length]; exact hi) = mkRow l i 3 := by simp [mkRows]
          rw [hg2]
          exact ((hM.each i (by omega)).far hwB hGY).rd ceL_len
      · have er : (made l).ends = mkEnds l s := by show mkEnds l (mkStates l) = _; rw [hsn]
        rw [er]
        exact hends.rd
end Go.Proofs.YtgflelodpcgmbaaGreatDoor
