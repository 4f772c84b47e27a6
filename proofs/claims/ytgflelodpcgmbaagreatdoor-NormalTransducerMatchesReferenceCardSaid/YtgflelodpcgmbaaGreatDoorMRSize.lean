/- univocalref01.Bytes, Size, Index. -/
import Derived.Test.YtgflelodpcgmbaaGreatDoorMRHas
import Derived.Test.YtgflelodpcgmbaaGreatDoorMPop
import Derived.Test.YtgflelodpcgmbaaGreatDoorMCells
import Derived.Test.YtgflelodpcgmbaaGreatDoorMNWrite
import Derived.RegionTactic
namespace Go.Proofs.YtgflelodpcgmbaaGreatDoor
open Go Go.RowKit Mem
set_option maxRecDepth 100000

def membs (p : Nat → Bool) (n : Nat) : List UInt8 := ((List.range n).filter p).map UInt8.ofNat
theorem membs_succ (p : Nat → Bool) (n : Nat) : membs p (n + 1) = if p n = true then membs p n ++ [UInt8.ofNat n] else membs p n := by
  unfold membs
  rw [List.range_succ, List.filter_append]
  by_cases h : p n = true <;> simp [h]
theorem membs_le (p : Nat → Bool) (n : Nat) : (membs p n).length ≤ n := by
  unfold membs
  rw [List.length_map]
  exact Nat.le_trans (List.length_filter_le _ _) (by simp)
theorem membs_size (c : Cl) : ((membs c.mem 256).length : Int) = c.size := by
  rw [size_count]
  unfold membs
  rw [List.length_map, List.countP_eq_length_filter]

set_option maxHeartbeats 8000000 in
theorem rBytes (w : World) (c : Cl) : Calls Tryz.prog 97 #[.agg (clA c)] w fun e w' => ∃ p k, e = .returned (.slice p (membs c.mem 256).length k) ∧ Mem.Own u8V w' w.heap.size 5 (.slice p (membs c.mem 256).length k) (membs c.mem 256) ∧ Below w.heap.size w w' := by
  go_enter Tryz.func97, Tryz.ntmps97
  go_upto_region 1 with (fail)
  obtain ⟨W, hW, hB, hs, r0⟩ : ∃ W, (w.alloc (.cells (clA c) 80)) = W ∧ Below w.heap.size w W ∧ w.heap.size + 1 ≤ W.heap.size ∧ Row oV W w.heap.size 80 (clL c) :=
    ⟨_, rfl, below_al (Below.refl _ _) (Nat.le_refl _) _, by simp, Row.new _ _ rfl⟩
  rw [hW]
  clear hW
  have hL0 : Mem.Own u8V (W.alloc (.cells #[] 5)) W.heap.size 5 (.slice (some ⟨W.heap.size, 0, none⟩) 0 0) ([] : List UInt8) := Own.new W _ W.heap.size (Nat.le_refl _) rfl (by simp)
  have hb0 := below_al (Below.refl W.heap.size W) (Nat.le_refl _) (.cells #[] 5)
  replace hL0 := Lib.hid hL0
  replace hb0 := Lib.hid hb0
  replace r0 := Lib.hid r0
  go_upto_region 3 with (fail)
  generalize (W.alloc (.cells #[] 5)) = W1 at *
  go_loopw [3, 4] (fun s3 s4 wr => ∃ (k : Nat) (p : Option Addr) (cc : Nat), k ≤ 256 ∧ s4 = .int .i64 k ∧ s3 = .slice p (membs c.mem k).length cc ∧ Hid (Mem.Own u8V wr W.heap.size 5 (.slice p (membs c.mem k).length cc) (membs c.mem k)) ∧ Below W.heap.size W wr) (fun _ i _ => 256 - (intOf i).toNat)
  case atStart => exact ⟨0, _, _, by omega, rfl, rfl, hL0, hb0.out⟩
  case round =>
    clear hL0 hb0
    obtain ⟨k, p, cc, hk, rfl, rfl, HL, hb⟩ := hrel
    have hr := r0.out.below hb (by omega)
    by_cases hlt : k < 256
    · have hq : (k : Int) < 256 := by omega
      have hbk : (UInt8.ofNat k).toNat = k := by simp; omega
      have hw8 : IntKind.u8.wrap (k : Int) = (k : Int) := by rw [IntKind.wrap_u8]; omega
      have hms := Lib.hid (membs_succ c.mem k)
      have hml := membs_le c.mem k
      go_wp2_with ((with_reducible refine load_agg (f := oV) (l := clL c) (C := clA c) aggCl (.tmp 1) ?_ ?_ w.heap.size 0 ?_ hr.at rfl ?_); rfl; rfl; rfl)
      have hc := rHas wr c (UInt8.ofNat k)
      rw [hbk] at hc
      refine hc.mono ?_
      rintro e W2 ⟨rfl, hb2⟩
      clear hc hr
      have HL2 := Lib.hid (HL.out.below' hb2)
      have hb3 := hb.trans (hb2.mono hb.size)
      have hbs := hb3.size
      clear HL hb hb2
      cases hm : c.mem k with
      | true =>
        have hms2 : Hid (membs c.mem k ++ [UInt8.ofNat k] = membs c.mem (k + 1)) := Lib.hid (by rw [hms.out, if_pos hm])
        go_wp2_with (at_builtin; (with_reducible refine append_one elt8 (.tmp 14) (.tmp 17) ?_ ?_ u8V_one ?_ HL2.out (UInt8.ofNat k) _ ?_ _ ?_ ?_ ?_ ?_ (membs c.mem (k + 1)) ?_ ?_); rfl; rfl; rfl; (show Value.int .u8 _ = Value.int .u8 _; rw [hbk]); rfl; (omega); (omega); (omega); (exact hms2.out); (intro p3 c3 W3 hO3 hB3 hG3))
        go_roundw
        case rel => exact ⟨k + 1, p3, c3, by omega, by go_num, rfl, Lib.hid hO3, hb3.trans hB3⟩
        case measure => simp [intOf] <;> omega
      | false =>
        have hms2 : membs c.mem (k + 1) = membs c.mem k := by rw [hms.out, hm]; rfl
        replace hms2 := Lib.hid hms2
        go_wp2_with fail
        go_roundw
        case rel => exact ⟨k + 1, p, cc, by omega, by go_num, by rw [hms2.out], by rw [hms2.out]; exact HL2, hb3⟩
        case measure => simp [intOf] <;> omega
    · obtain rfl : k = 256 := by omega
      go_wp2_with fail
      go_ret
      exact ⟨p, cc, rfl, HL.out.mono hB.size, hB.trans (hb.mono hB.size)⟩

theorem rSize (w : World) (c : Cl) : Calls Tryz.prog 72 #[.agg (clA c)] w fun e w' => e = .returned (.int .i64 c.size) ∧ Below w.heap.size w w' := by
  go_enter Tryz.func72, Tryz.ntmps72
  go_upto_region 1 with (fail)
  obtain ⟨W, hW, hB, r0⟩ : ∃ W, (w.alloc (.cells (clA c) 80)) = W ∧ Below w.heap.size w W ∧ Row oV W w.heap.size 80 (clL c) :=
    ⟨_, rfl, below_al (Below.refl _ _) (Nat.le_refl _) _, Row.new _ _ rfl⟩
  rw [hW]
  clear hW
  go_wp2_with ((with_reducible refine load_agg (f := oV) (l := clL c) (C := clA c) aggCl (.tmp 1) ?_ ?_ w.heap.size 0 ?_ r0.at rfl ?_); rfl; rfl; rfl)
  refine (rBytes W c).mono ?_
  rintro e W2 ⟨p, k, rfl, _, hb⟩
  have hm := Lib.hid (membs_size c)
  go_wp2_with fail
  go_ret
  exact ⟨by first | (rw [hm.out]; rfl) | rw [hm.out], hB.trans (hb.mono hB.size)⟩

set_option maxHeartbeats 4000000 in
theorem rIndex (w : World) (v : Value) (l : List Cl) (b : UInt8) (hv : RdK 4 clL w v l) (hn : l.length ≤ 4294967296) :
    Calls Tryz.prog 33 #[v, .int .u8 (b.toNat : Int)] w fun e w' => e = .returned (.int .i64 (idxC l b)) ∧ Below w.heap.size w w' := by
  have HV := Lib.hid hv
  obtain ⟨p, cp, rfl⟩ := hv.slice
  clear hv
  go_enter Tryz.func33, Tryz.ntmps33
  go_wp2_with fail
  go_loopw [5] (fun i wr => ∃ (k : Nat), k ≤ l.length ∧ i = .int .i64 k ∧ (∀ j (h : j < l.length), j < k → l[j].has b = false) ∧ Below w.heap.size w wr) (fun i _ => l.length - (intOf i).toNat)
  case atStart => exact ⟨0, by omega, rfl, fun j h hj => by omega, Below.refl _ _⟩
  case round =>
    obtain ⟨k, hk, rfl, hno, hB⟩ := hrel
    have HNO := Lib.hid hno
    clear hno
    by_cases hlt : k < l.length
    · obtain ⟨bb, bo, rfl, hA, hcap, hbl⟩ := HV.out.elem k hlt
      have hA2 := hA.below hB hbl
      have hq : (k : Int) < (l.length : Int) := by omega
      clear hA
      go_wp2_with (first
        | ((with_reducible refine load_agg (f := oV) (l := clL l[k]) (C := clA l[k]) aggCl (.tmp 14) ?_ ?_ bb (bo + k * 4) ?_ hA2 rfl ?_); rfl; rfl; rfl))
      have hc := rHas wr l[k] b
      rw [← has_mem] at hc
      refine hc.mono ?_
      clear hc
      rintro e w2 ⟨rfl, hB2⟩
      replace hB := hB.trans (hB2.mono hB.size)
      clear hA2 hB2
      cases hh : l[k].has b with
      | true =>
        have hi := idxC_at l b k hlt hh HNO.out
        go_wp2
        go_ret
        exact ⟨by first | rfl | (rw [hi]; rfl), hB⟩
      | false =>
        go_wp2_with fail
        go_roundw
        case rel =>
          refine ⟨k + 1, by omega, by go_num, fun j h hj => ?_, hB⟩
          rcases Nat.lt_or_ge j k with h1 | h1
          · exact HNO.out j h h1
          · obtain rfl : j = k := by omega
            exact hh
        case measure => simp [intOf]; omega
    · have hi := idxC_none l b (fun j h => HNO.out j h (by omega))
      have hq : ¬ (k : Int) < (l.length : Int) := by omega
      go_wp2
      go_ret
      exact ⟨by first | rfl | (rw [hi]; rfl), hB⟩
end Go.Proofs.YtgflelodpcgmbaaGreatDoor
/- univocalref01.Partition. -/
namespace Go.Proofs.YtgflelodpcgmbaaGreatDoor
open Go Go.RowKit Mem
set_option maxRecDepth 100000

set_option maxHeartbeats 16000000 in
theorem rPartition (w : World) (v : Value) (l : List Cl) (hv : RdK 4 clL w v l) (hn : l.length ≤ 4294967296) : Calls Tryz.prog 38 #[v] w fun e w' => e = .returned (.bool (partB zc l)) ∧ Below w.heap.size w w' := by
  have HV := Lib.hid hv
  obtain ⟨p, cp, rfl⟩ := hv.slice
  clear hv
  go_enter Tryz.func38, Tryz.ntmps38
  have hZ : Row oV (w.alloc (.cells zCl 80)) w.heap.size 80 [ow 0, ow 0, ow 0, ow 0] := Row.new _ _ rfl
  go_upto_region 2 with (((with_reducible refine store_agg (f := oV) (l := [ow 0, ow 0, ow 0, ow 0]) (l' := clL zc) (t := 80) (C := clA zc) aggCl (.tmp 3) (.tmp 5) ?_ ?_ w.heap.size ?_ ?_ ?_ hZ ?_ oV_one ?_); rfl; rfl; rfl; rfl; rfl; rfl; (intro W hs hG hz)))
  have hB := below_row (Below.refl w.heap.size w) hG
  have HU0 := Lib.hid hs
  have hn3 : w.heap.size < W.heap.size := hs.lt
  clear hZ hs hG hz
  go_upto_region 3 with (fail)
  go_loopw [4] (fun s4 wr => ∃ (k : Nat) (a : Cl), k ≤ l.length ∧ s4 = .int .i64 k ∧ Hid (partB zc l = partB a (l.drop k)) ∧ Hid (Row oV wr w.heap.size 80 (clL a)) ∧ Below w.heap.size w wr) (fun i _ => l.length - (intOf i).toNat)
  case atStart => exact ⟨0, zc, by omega, rfl, Lib.hid rfl, HU0, hB⟩
  case round =>
    clear HU0 hB hn3 W
    obtain ⟨k, a, hk, rfl, HP, HU, hB⟩ := hrel
    have hl3 : w.heap.size < wr.heap.size := HU.out.lt
    by_cases hlt : k < l.length
    · obtain ⟨bb, bo, rfl, hA, hcap, hbl⟩ := HV.out.elem k hlt
      have HA : Hid (∀ Y, Below wr.heap.size wr Y → At oV Y bb (bo + k * 4) (clL (l[k]'hlt))) := Lib.hid fun Y hY => hA.below (hB.trans (hY.mono hB.size)) hbl
      have hq : (k : Int) < (l.length : Int) := by omega
      have hpe : partB zc l = (decide ((l[k]'hlt).size ≠ 0) && (decide (¬ 0 < (a.inter (l[k]'hlt)).size) && partB (a.union (l[k]'hlt)) (l.drop (k + 1)))) := by rw [HP.out, List.drop_eq_getElem_cons hlt, partB]
      have HPa : Hid ((l[k]'hlt).size = 0 → partB zc l = false) := Lib.hid fun h => by rw [hpe, h]; simp
      have HPb : Hid (0 < (a.inter (l[k]'hlt)).size → partB zc l = false) := Lib.hid fun h => by rw [hpe, decide_eq_false (fun h2 : ¬ 0 < (a.inter (l[k]'hlt)).size => h2 h)]; simp
      have HPc : Hid (¬ (l[k]'hlt).size = 0 → ¬ 0 < (a.inter (l[k]'hlt)).size → partB zc l = partB (a.union (l[k]'hlt)) (l.drop (k + 1))) := Lib.hid fun h h2 => by rw [hpe, decide_eq_true h, decide_eq_true h2]; rfl
      clear hpe
      clear hA HP
      generalize l[k]'hlt = c at *
      go_wp2_with fail
      go_cut [27] (fun s27 wx => s27 = .bool (decide (c.size = 0) || decide (0 < (a.inter c).size)) ∧ Below wr.heap.size wr wx)
      · refine wp_region_held_drew (S := fun XX => Below wr.heap.size wr XX) rfl (Below.refl _ _).drew fun hS => ?_
        refine takeD (i := 0) (d := 12) (v := .slice (some ⟨bb, bo, none⟩) l.length cp) rfl rfl (by kernel_rfl) (by kernel_rfl) (by kernel_rfl) (fun c a w h => h) (yieldsIf_op rfl (fun w => by first | rfl | kernel_rfl | (go_simp; done))) hS ?_
        simp only [List.setIfInBounds_toArray, List.set_cons_succ, List.set_cons_zero]
        refine takeD (i := 1) (d := 13) (v := .int .i64 k) rfl rfl (by kernel_rfl) (by kernel_rfl) (by kernel_rfl) (fun c a w h => h) (yieldsIf_op rfl (fun w => by first | rfl | kernel_rfl | (go_simp; done))) hS ?_
        simp only [List.setIfInBounds_toArray, List.set_cons_succ, List.set_cons_zero]
        refine takeD (i := 2) (d := 14) (v := .pointer (some ⟨bb, bo + k * 4, none⟩)) rfl rfl (by kernel_rfl) (by kernel_rfl) (by kernel_rfl) (fun c a w h => h) (yieldsIf_op rfl (fun w => by go_simp)) hS ?_
        simp only [List.setIfInBounds_toArray, List.set_cons_succ, List.set_cons_zero]
        refine takeD (i := 3) (d := 15) (v := .agg (clA c)) rfl rfl (by kernel_rfl) (by kernel_rfl) (by kernel_rfl) (fun c a w h => h) (yieldsIf_load (f := oV) (l := clL c) aggCl (.tmp 14) rfl bb (bo + k * 4) rfl (fun W' h => HA.out W' h) rfl rfl) hS ?_
        simp only [List.setIfInBounds_toArray, List.set_cons_succ, List.set_cons_zero]
        refine wpAnyH_ready (rs := [4]) (by kernel_rfl) (by simp) (AllReadyH.cons rfl (fun K' hK => ?_) AllReadyH.nil)
        refine callD (d := 16) (g := 72) (args := #[.agg (clA c)]) rfl rfl (by first | kernel_rfl | (simp [execOp, resolve, invoke, Act.eval]) | go_simp) ?_
        refine (rSize _ c).mono ?_
        rintro e A1 ⟨rfl, hBx⟩
        replace hS := hS.trans (hBx.mono hS.size)
        refine ⟨_, rfl, hK.out _ _ hS fun _ => ?_⟩
        clear hK hBx
        simp only [List.setIfInBounds_toArray, List.set_cons_succ, List.set_cons_zero]
        by_cases h0 : c.size = 0
        · have hd0 : (c.size == 0) = true := by simpa using h0
          refine takeD (i := 5) (d := 17) (v := .bool true) rfl rfl (by kernel_rfl) (by kernel_rfl) (by kernel_rfl) (fun c a w h => h) (yieldsIf_op rfl (fun w => by go_simp)) hS ?_
          simp only [List.setIfInBounds_toArray, List.set_cons_succ, List.set_cons_zero]
          refine takeD (i := 6) (d := 18) (v := .bool true) rfl rfl (by kernel_rfl) (by kernel_rfl) (by kernel_rfl) (fun c a w h => h) (yieldsIf_op rfl (fun w => by first | rfl | kernel_rfl | (go_simp; done))) hS ?_
          simp only [List.setIfInBounds_toArray, List.set_cons_succ, List.set_cons_zero]
          refine takeD (i := 7) (d := 19) (v := undef) rfl rfl (by kernel_rfl) (by kernel_rfl) (by kernel_rfl) (fun c a w h => h) (yieldsIf_skip rfl) hS ?_
          simp only [List.setIfInBounds_toArray, List.set_cons_succ, List.set_cons_zero]
          refine takeD (i := 8) (d := 20) (v := undef) rfl rfl (by kernel_rfl) (by kernel_rfl) (by kernel_rfl) (fun c a w h => h) (yieldsIf_skip rfl) hS ?_
          simp only [List.setIfInBounds_toArray, List.set_cons_succ, List.set_cons_zero]
          refine takeD (i := 9) (d := 21) (v := undef) rfl rfl (by kernel_rfl) (by kernel_rfl) (by kernel_rfl) (fun c a w h => h) (yieldsIf_skip rfl) hS ?_
          simp only [List.setIfInBounds_toArray, List.set_cons_succ, List.set_cons_zero]
          refine takeD (i := 10) (d := 22) (v := undef) rfl rfl (by kernel_rfl) (by kernel_rfl) (by kernel_rfl) (fun c a w h => h) (yieldsIf_skip rfl) hS ?_
          simp only [List.setIfInBounds_toArray, List.set_cons_succ, List.set_cons_zero]
          refine takeD (i := 11) (d := 23) (v := undef) rfl rfl (by kernel_rfl) (by kernel_rfl) (by kernel_rfl) (fun c a w h => h) (yieldsIf_skip rfl) hS ?_
          simp only [List.setIfInBounds_toArray, List.set_cons_succ, List.set_cons_zero]
          refine takeD (i := 12) (d := 24) (v := undef) rfl rfl (by kernel_rfl) (by kernel_rfl) (by kernel_rfl) (fun c a w h => h) (yieldsIf_skip rfl) hS ?_
          simp only [List.setIfInBounds_toArray, List.set_cons_succ, List.set_cons_zero]
          refine takeD (i := 13) (d := 25) (v := undef) rfl rfl (by kernel_rfl) (by kernel_rfl) (by kernel_rfl) (fun c a w h => h) (yieldsIf_skip rfl) hS ?_
          simp only [List.setIfInBounds_toArray, List.set_cons_succ, List.set_cons_zero]
          refine takeD (i := 14) (d := 26) (v := undef) rfl rfl (by kernel_rfl) (by kernel_rfl) (by kernel_rfl) (fun c a w h => h) (yieldsIf_skip rfl) hS ?_
          simp only [List.setIfInBounds_toArray, List.set_cons_succ, List.set_cons_zero]
          refine takeD (i := 15) (d := 27) (v := .bool true) rfl rfl (by kernel_rfl) (by kernel_rfl) (by kernel_rfl) (fun c a w h => h) (yieldsIf_op rfl (fun w => by first | rfl | kernel_rfl | (go_simp; done))) hS ?_
          simp only [List.setIfInBounds_toArray, List.set_cons_succ, List.set_cons_zero]
          refine wpAnyH_done (by kernel_rfl) ?_ _
          go_wp2
          go_meet
          exact ⟨by rw [decide_eq_true h0]; rfl, hS⟩
        · have hd0 : (c.size == 0) = false := by simpa using h0
          refine takeD (i := 5) (d := 17) (v := .bool false) rfl rfl (by kernel_rfl) (by kernel_rfl) (by kernel_rfl) (fun c a w h => h) (yieldsIf_op rfl (fun w => by go_simp)) hS ?_
          simp only [List.setIfInBounds_toArray, List.set_cons_succ, List.set_cons_zero]
          refine takeD (i := 6) (d := 18) (v := .bool false) rfl rfl (by kernel_rfl) (by kernel_rfl) (by kernel_rfl) (fun c a w h => h) (yieldsIf_op rfl (fun w => by first | rfl | kernel_rfl | (go_simp; done))) hS ?_
          simp only [List.setIfInBounds_toArray, List.set_cons_succ, List.set_cons_zero]
          refine takeD (i := 7) (d := 19) (v := .agg (clA a)) rfl rfl (by kernel_rfl) (by kernel_rfl) (by kernel_rfl) (fun c a w h => h) (yieldsIf_load (f := oV) (l := clL a) aggCl (.tmp 3) rfl w.heap.size 0 rfl (fun W' h => (HU.out.below h hl3).at) rfl rfl) hS ?_
          simp only [List.setIfInBounds_toArray, List.set_cons_succ, List.set_cons_zero]
          refine takeD (i := 8) (d := 20) (v := .slice (some ⟨bb, bo, none⟩) l.length cp) rfl rfl (by kernel_rfl) (by kernel_rfl) (by kernel_rfl) (fun c a w h => h) (yieldsIf_op rfl (fun w => by first | rfl | kernel_rfl | (go_simp; done))) hS ?_
          simp only [List.setIfInBounds_toArray, List.set_cons_succ, List.set_cons_zero]
          refine takeD (i := 9) (d := 21) (v := .int .i64 k) rfl rfl (by kernel_rfl) (by kernel_rfl) (by kernel_rfl) (fun c a w h => h) (yieldsIf_op rfl (fun w => by first | rfl | kernel_rfl | (go_simp; done))) hS ?_
          simp only [List.setIfInBounds_toArray, List.set_cons_succ, List.set_cons_zero]
          refine takeD (i := 10) (d := 22) (v := .pointer (some ⟨bb, bo + k * 4, none⟩)) rfl rfl (by kernel_rfl) (by kernel_rfl) (by kernel_rfl) (fun c a w h => h) (yieldsIf_op rfl (fun w => by go_simp)) hS ?_
          simp only [List.setIfInBounds_toArray, List.set_cons_succ, List.set_cons_zero]
          refine takeD (i := 11) (d := 23) (v := .agg (clA c)) rfl rfl (by kernel_rfl) (by kernel_rfl) (by kernel_rfl) (fun c a w h => h) (yieldsIf_load (f := oV) (l := clL c) aggCl (.tmp 22) rfl bb (bo + k * 4) rfl (fun W' h => HA.out W' h) rfl rfl) hS ?_
          simp only [List.setIfInBounds_toArray, List.set_cons_succ, List.set_cons_zero]
          refine wpAnyH_ready (rs := [12]) (by kernel_rfl) (by simp) (AllReadyH.cons rfl (fun K' hK => ?_) AllReadyH.nil)
          refine callD (d := 24) (g := 73) (args := #[.agg (clA a), .agg (clA c)]) rfl rfl (by first | kernel_rfl | (simp [execOp, resolve, invoke, Act.eval]) | go_simp) ?_
          refine (rInter _ a c).mono ?_
          rintro e A2 ⟨rfl, hBx⟩
          replace hS := hS.trans (hBx.mono hS.size)
          refine ⟨_, rfl, hK.out _ _ hS fun _ => ?_⟩
          clear hK hBx
          simp only [List.setIfInBounds_toArray, List.set_cons_succ, List.set_cons_zero]
          refine wpAnyH_ready (rs := [13]) (by kernel_rfl) (by simp) (AllReadyH.cons rfl (fun K' hK => ?_) AllReadyH.nil)
          refine callD (d := 25) (g := 72) (args := #[.agg (clA (a.inter c))]) rfl rfl (by first | kernel_rfl | (simp [execOp, resolve, invoke, Act.eval]) | go_simp) ?_
          refine (rSize _ (a.inter c)).mono ?_
          rintro e A3 ⟨rfl, hBx⟩
          replace hS := hS.trans (hBx.mono hS.size)
          refine ⟨_, rfl, hK.out _ _ hS fun _ => ?_⟩
          clear hK hBx
          simp only [List.setIfInBounds_toArray, List.set_cons_succ, List.set_cons_zero]
          by_cases h1 : 0 < (a.inter c).size
          · have hd1 : decide (0 < (a.inter c).size) = true := by simpa using h1
            refine takeD (i := 14) (d := 26) (v := .bool true) rfl rfl (by kernel_rfl) (by kernel_rfl) (by kernel_rfl) (fun c a w h => h) (yieldsIf_op rfl (fun w => by go_simp)) hS ?_
            simp only [List.setIfInBounds_toArray, List.set_cons_succ, List.set_cons_zero]
            refine takeD (i := 15) (d := 27) (v := .bool true) rfl rfl (by kernel_rfl) (by kernel_rfl) (by kernel_rfl) (fun c a w h => h) (yieldsIf_op rfl (fun w => by first | rfl | kernel_rfl | (go_simp; done))) hS ?_
            simp only [List.setIfInBounds_toArray, List.set_cons_succ, List.set_cons_zero]
            refine wpAnyH_done (by kernel_rfl) ?_ _
            go_wp2
            go_meet
            exact ⟨by rw [decide_eq_false h0, hd1]; rfl, hS⟩
          · have hd1 : decide (0 < (a.inter c).size) = false := by simpa using h1
            refine takeD (i := 14) (d := 26) (v := .bool false) rfl rfl (by kernel_rfl) (by kernel_rfl) (by kernel_rfl) (fun c a w h => h) (yieldsIf_op rfl (fun w => by go_simp)) hS ?_
            simp only [List.setIfInBounds_toArray, List.set_cons_succ, List.set_cons_zero]
            refine takeD (i := 15) (d := 27) (v := .bool false) rfl rfl (by kernel_rfl) (by kernel_rfl) (by kernel_rfl) (fun c a w h => h) (yieldsIf_op rfl (fun w => by first | rfl | kernel_rfl | (go_simp; done))) hS ?_
            simp only [List.setIfInBounds_toArray, List.set_cons_succ, List.set_cons_zero]
            refine wpAnyH_done (by kernel_rfl) ?_ _
            go_wp2
            go_meet
            exact ⟨by rw [decide_eq_false h0, hd1]; rfl, hS⟩
      obtain ⟨rfl, hb⟩ := hcut
      obtain ⟨Z, hz0⟩ : ∃ Z, Z = wc := ⟨_, rfl⟩
      subst hz0
      by_cases h0 : c.size = 0
      · have hp : Hid (partB zc l = false) := Lib.hid (HPa.out h0)
        rw [decide_eq_true h0, Bool.true_or]
        clear HPa HPb HPc
        go_wp2_with fail
        go_ret
        exact ⟨by first | (rw [hp.out]; rfl) | rw [hp.out], hB.trans (hb.mono hB.size)⟩
      by_cases h1 : 0 < (a.inter c).size
      · have hp : Hid (partB zc l = false) := Lib.hid (HPb.out h1)
        rw [decide_eq_false h0, decide_eq_true h1, Bool.or_true]
        clear HPa HPb HPc
        go_wp2_with fail
        go_ret
        exact ⟨by first | (rw [hp.out]; rfl) | rw [hp.out], hB.trans (hb.mono hB.size)⟩
      rw [decide_eq_false h0, decide_eq_false h1, Bool.or_false]
      have HP2 : Hid (partB zc l = partB (a.union c) (l.drop (k + 1))) := Lib.hid (HPc.out h0 (by omega))
      clear HPa HPb HPc
      replace HU := Lib.hid (HU.out.below hb hl3)
      replace HA : Hid (∀ Y, Below Z.heap.size Z Y → At oV Y bb (bo + k * 4) (clL c)) := Lib.hid fun Y hY => HA.out Y (hb.trans (hY.mono hb.size))
      replace hB := hB.trans (hb.mono hB.size)
      replace hl3 : w.heap.size < Z.heap.size := HU.out.lt
      clear hb h0 h1
      go_upto_region 7 with (fail)
      refine region_headsT (S := fun X => Below Z.heap.size Z X) 6 rfl (by kernel_rfl) (Below.refl _ _).drew fun hS => ?_
      refine headsT_takeD (i := 0) (d := 28) (v := .agg (clA a)) (by kernel_rfl) rfl rfl (by omega) (by kernel_rfl) (by kernel_rfl) (fun c a w h => h) (yieldsIf_load (f := oV) (l := clL a) aggCl (.tmp 3) rfl w.heap.size 0 rfl (fun W' h => (HU.out.below h hl3).at) rfl rfl) hS ?_
      simp only [List.setIfInBounds_toArray, List.set_cons_succ, List.set_cons_zero]
      refine headsT_takeD (i := 1) (d := 29) (v := .slice (some ⟨bb, bo, none⟩) l.length cp) (by kernel_rfl) rfl rfl (by omega) (by kernel_rfl) (by kernel_rfl) (fun c a w h => h) (yieldsIf_op rfl (fun w => by first | rfl | kernel_rfl | (go_simp; done))) hS ?_
      simp only [List.setIfInBounds_toArray, List.set_cons_succ, List.set_cons_zero]
      refine headsT_takeD (i := 2) (d := 30) (v := .int .i64 k) (by kernel_rfl) rfl rfl (by omega) (by kernel_rfl) (by kernel_rfl) (fun c a w h => h) (yieldsIf_op rfl (fun w => by first | rfl | kernel_rfl | (go_simp; done))) hS ?_
      simp only [List.setIfInBounds_toArray, List.set_cons_succ, List.set_cons_zero]
      refine headsT_takeD (i := 3) (d := 31) (v := .pointer (some ⟨bb, bo + k * 4, none⟩)) (by kernel_rfl) rfl rfl (by omega) (by kernel_rfl) (by kernel_rfl) (fun c a w h => h) (yieldsIf_op rfl (fun w => by go_simp)) hS ?_
      simp only [List.setIfInBounds_toArray, List.set_cons_succ, List.set_cons_zero]
      refine headsT_takeD (i := 4) (d := 32) (v := .agg (clA c)) (by kernel_rfl) rfl rfl (by omega) (by kernel_rfl) (by kernel_rfl) (fun c a w h => h) (yieldsIf_load (f := oV) (l := clL c) aggCl (.tmp 31) rfl bb (bo + k * 4) rfl (fun W' h => HA.out W' h) rfl rfl) hS ?_
      simp only [List.setIfInBounds_toArray, List.set_cons_succ, List.set_cons_zero]
      refine headsT_ready (rs := [5]) (by kernel_rfl) (by simp) (AllReadyT.cons (by omega) rfl (fun K' hK => ?_) AllReadyT.nil)
      refine callD (d := 33) (g := 42) (args := #[.agg (clA a), .agg (clA c)]) rfl rfl (by first | kernel_rfl | (simp [execOp, resolve, invoke, Act.eval]) | go_simp) ?_
      refine (rUnion _ a c).mono ?_
      rintro e A4 ⟨rfl, hBx⟩
      replace hS := hS.trans (hBx.mono hS.size)
      refine ⟨_, rfl, hK.out _ _ hS fun _ => ?_⟩
      clear hK hBx
      simp only [List.setIfInBounds_toArray, List.set_cons_succ, List.set_cons_zero]
      refine headsT_tail (by kernel_rfl) ?_
      simp only [List.drop]
      have hU4 := HU.out.below hS hl3
      generalize hv : a.union c = v at *
      go_wp2_with (((with_reducible refine store_agg (f := oV) (l := clL a) (l' := clL v) (t := 80) (C := clA v) aggCl (.tmp 3) (.tmp 33) ?_ ?_ w.heap.size ?_ ?_ ?_ hU4 ?_ oV_one ?_); rfl; rfl; rfl; rfl; rfl; rfl; (intro w6 hs6 hG6 hz6)))
      go_roundw
      case rel => exact ⟨k + 1, v, by omega, by go_num, HP2, Lib.hid hs6, (hB.trans (hS.mono hB.size)).grown hG6 (Nat.le_trans hB.size hS.size) (fun j e => by cases e; exact Nat.le_refl _)⟩
      case measure => simp [intOf]; omega
    · obtain rfl : k = l.length := by omega
      have hq : ¬ (l.length : Int) < (l.length : Int) := by omega
      have HP2 : Hid (partB zc l = decide (a.size = 256)) := Lib.hid (by rw [HP.out, List.drop_length]; rfl)
      have hr := HU.out
      clear HP
      go_wp2_with ((with_reducible refine load_agg (f := oV) (l := clL a) (C := clA a) aggCl (.tmp 3) ?_ ?_ w.heap.size 0 ?_ hr.at rfl ?_); rfl; rfl; rfl)
      refine (rSize wr a).mono ?_
      rintro e W2 ⟨rfl, hb⟩
      clear hr
      by_cases hz : a.size = 256
      · go_wp2_with fail
        go_ret
        exact ⟨by first | (rw [HP2.out, decide_eq_true hz]; rfl) | rw [HP2.out, decide_eq_true hz], hB.trans (hb.mono hB.size)⟩
      · have hz2 : (a.size == 256) = false := by simpa using hz
        go_wp2_with fail
        go_ret
        exact ⟨by first | (rw [HP2.out, decide_eq_false hz]; rfl) | rw [HP2.out, decide_eq_false hz], hB.trans (hb.mono hB.size)⟩
end Go.Proofs.YtgflelodpcgmbaaGreatDoor
/- univocalref25.Valid. -/
namespace Go.Proofs.YtgflelodpcgmbaaGreatDoor
open Go Go.RowKit Mem
set_option maxRecDepth 100000

theorem part_of_valid {N : NZ} (h : N.valid = true) : partB zc N.cls = true := (partB_valid _).2 ⟨((valid_iff N).1 h).2.1, ((valid_iff N).1 h).2.2.1, ((valid_iff N).1 h).2.2.2.1⟩
theorem valid_of_part {N : NZ} (h0 : N.cls.length ≤ 256 ∧ 1 ≤ N.rows.length ∧ N.rows.length ≤ 64 ∧ N.ends.length = N.rows.length) (hp : partB zc N.cls = true) (hr : ∀ r ∈ N.rows, r.length = N.cls.length ∧ r.any (·.bad N.rows.length) = false) : N.valid = true := by
  obtain ⟨h1, h2, h3⟩ := (partB_valid _).1 hp
  exact (valid_iff N).2 ⟨h0, h1, h2, h3, hr⟩

set_option maxHeartbeats 16000000 in
theorem rValid (w : World) (v : Value) (N : NZ) (hv : NzAt w v N) :
    Calls Tryz.prog 14 #[v] w fun e w' => e = .returned (.bool N.valid) ∧ Below w.heap.size w w' := by
  have HV := Lib.hid hv
  obtain ⟨vc, vr, ve, rfl, h1, h2, h3⟩ := hv
  obtain ⟨pc, kc, rfl⟩ := h1.slice
  obtain ⟨pr, kr, rfl⟩ := h2.slice
  obtain ⟨pe, ke, rfl⟩ := h3.slice
  have HC := Lib.hid h1
  have HR := Lib.hid h2
  clear h1 h2 h3
  go_enter Tryz.func14, Tryz.ntmps14
  go_upto_region 1 with (fail)
  obtain ⟨W, hW, hB, hs, g0⟩ : ∃ W, (w.alloc (.cells #[.slice pc N.cls.length kc, .slice pr N.rows.length kr, .slice pe N.ends.length ke] 26)) = W ∧ Below w.heap.size w W ∧ w.heap.size + 1 ≤ W.heap.size ∧ W.heap[w.heap.size]? = some (.cells #[.slice pc N.cls.length kc, .slice pr N.rows.length kr, .slice pe N.ends.length ke] 26 (0, 0)) :=
    ⟨_, rfl, (Below.refl _ _).alloc (Nat.le_refl _) _, by simp, World.alloc_heap_new _ _⟩
  rw [hW]
  clear hW
  have HF : Hid (∀ X, Below (w.heap.size + 1) W X → X.cell? ⟨w.heap.size, 0, none⟩ = some (.slice pc N.cls.length kc) ∧ X.cell? ⟨w.heap.size, 1, none⟩ = some (.slice pr N.rows.length kr) ∧ X.cell? ⟨w.heap.size, 2, none⟩ = some (.slice pe N.ends.length ke) ∧ RdK 4 clL X (.slice pc N.cls.length kc) N.cls ∧ RdR X (.slice pr N.rows.length kr) N.rows ∧ Below w.heap.size w X ∧ w.heap.size + 1 ≤ X.heap.size) := Lib.hid fun X hX => by
    have hX0 : Below w.heap.size w X := hB.trans (hX.mono (Nat.le_succ _))
    have hg := (hX.block w.heap.size (Nat.lt_succ_self _)).trans g0
    refine ⟨?_, ?_, ?_, HC.out.below hX0, HR.out.below hX0, hX0, Nat.le_trans hs hX.size⟩ <;> (unfold World.cell?; rw [hg]; rfl)
  have hX : Below (w.heap.size + 1) W W := Below.refl _ _
  clear hB hs g0
  obtain ⟨p0, p1, p2, hc, _, hw, hs⟩ := HF.out W hX
  have no : ∀ b : Bool, (¬ (N.cls.length ≤ 256 ∧ 1 ≤ N.rows.length ∧ N.rows.length ≤ 64 ∧ N.ends.length = N.rows.length)) → N.valid = false := fun b h => by unfold NZ.valid; rw [decide_eq_false h]; rfl
  replace hc := Lib.hid hc
  by_cases q1 : (256 : Int) < (N.cls.length : Int)
  · have hv := no true (by omega)
    have d1 : decide ((256 : Int) < (N.cls.length : Int)) = true := decide_eq_true q1
    go_wp2
    go_ret
    exact ⟨by first | rfl | (rw [hv]; rfl), hw⟩
  have d1 : decide ((256 : Int) < (N.cls.length : Int)) = false := decide_eq_false q1
  go_wp2_with fail
  refine (rPartition W _ N.cls hc.out (by omega)).mono ?_
  rintro e W1 ⟨rfl, hb⟩
  replace hX := hX.trans (hb.mono hs)
  clear p0 p1 p2 hw hs hb hc
  obtain ⟨p0, p1, p2, _, _, hw, hs⟩ := HF.out W1 hX
  cases hp : partB zc N.cls with
  | false =>
    have hv : N.valid = false := not_valid fun h => by have := part_of_valid h; rw [hp] at this; cases this
    replace hv := Lib.hid hv
    clear hp
    go_wp2
    go_ret
    exact ⟨by first | (rw [hv.out]; rfl) | rw [hv.out], hw⟩
  | true =>
  replace hp := Lib.hid hp
  by_cases q2 : (N.rows.length : Int) < 1
  · have hv := no true (by omega)
    have dq2 : decide ((N.rows.length : Int) < 1) = true := decide_eq_true q2
    clear no
    go_wp2
    go_ret
    exact ⟨by first | rfl | (rw [hv]; rfl), hw⟩
  have dq2 : decide ((N.rows.length : Int) < 1) = false := decide_eq_false q2
  by_cases q3 : (64 : Int) < (N.rows.length : Int)
  · have hv := no true (by omega)
    have dq3 : decide ((64 : Int) < (N.rows.length : Int)) = true := decide_eq_true q3
    clear no
    go_wp2
    go_ret
    exact ⟨by first | rfl | (rw [hv]; rfl), hw⟩
  have dq3 : decide ((64 : Int) < (N.rows.length : Int)) = false := decide_eq_false q3
  by_cases q4 : (N.ends.length : Int) = (N.rows.length : Int)
  rotate_left
  · have hv := no true (by omega)
    have dq4 : ((N.ends.length : Int) != (N.rows.length : Int)) = true := by simpa using q4
    clear no
    go_wp2
    go_ret
    exact ⟨by first | rfl | (rw [hv]; rfl), hw⟩
  have hcl : N.cls.length ≤ 256 := by omega
  have hrl : 1 ≤ N.rows.length ∧ N.rows.length ≤ 64 := by omega
  have h0 : Hid (N.cls.length ≤ 256 ∧ 1 ≤ N.rows.length ∧ N.rows.length ≤ 64 ∧ N.ends.length = N.rows.length) := Lib.hid (by omega)
  have dq4 : ((N.ends.length : Int) != (N.rows.length : Int)) = false := by simpa using q4
  clear no
  replace hX := Lib.hid hX
  go_wp2_with fail
  clear p0 p1 p2 hw hs d1 dq2 dq3 dq4 q1 q2 q3 q4
  go_loopw [3] (fun i wr => ∃ (k : Nat), k ≤ N.rows.length ∧ i = .int .i64 k ∧ Below (w.heap.size + 1) W wr ∧ Hid (∀ j (h : j < N.rows.length), j < k → N.rows[j].length = N.cls.length ∧ N.rows[j].any (·.bad N.rows.length) = false)) (fun i _ => N.rows.length - (intOf i).toNat)
  case atStart => exact ⟨0, by omega, rfl, hX.out, Lib.hid fun j h hj => by omega⟩
  case round =>
    clear hX
    obtain ⟨k, hk, rfl, hX, HOK⟩ := hrel
    obtain ⟨p0, p1, p2, _, hR, hw, hs⟩ := HF.out _ hX
    by_cases hlt : k < N.rows.length
    · obtain ⟨bb, bo, u, rfl, hu, hru, hcap, hbl⟩ := hR.elem k hlt
      obtain ⟨pu, cu, rfl⟩ := hru.slice
      have hq : (k : Int) < (N.rows.length : Int) := by omega
      have HU : Hid (∀ Y, Below wr.heap.size wr Y → Y.cell? ⟨bb, bo + k, none⟩ = some (.slice pu (N.rows[k]'hlt).length cu) ∧ RdK 3 ceL Y (.slice pu (N.rows[k]'hlt).length cu) (N.rows[k]'hlt)) := Lib.hid fun Y hY => ⟨(hY.cell (p := ⟨bb, bo + k, none⟩) hbl).trans hu, hru.below hY⟩
      have hmem : Hid ((N.rows[k]'hlt) ∈ N.rows) := Lib.hid (List.getElem_mem hlt)
      clear hR hru
      obtain ⟨row, hrow⟩ : ∃ row, row = N.rows[k]'hlt := ⟨_, rfl⟩
      rw [← hrow] at HU hu hmem
      replace hrow := Lib.hid hrow
      by_cases z3 : (row.length : Int) = (N.cls.length : Int)
      rotate_left
      · have hv : N.valid = false := not_valid fun h => z3 (by have := (((valid_iff N).1 h).2.2.2.2 _ hmem.out).1; omega)
        have d3 : ((row.length : Int) != (N.cls.length : Int)) = true := by simpa using z3
        replace hv := Lib.hid hv
        have hwd := hw.drew
        go_upto_region 6 with (fail)
        go_region
        go_wp2
        go_ret
        exact ⟨by first | (rw [hv.out]; rfl) | rw [hv.out], hwd⟩
      have d3 : ((row.length : Int) != (N.cls.length : Int)) = false := by simpa using z3
      go_upto_region 6 with (fail)
      go_region
      go_wp2_with fail
      have hXd := Lib.hid hX.drew
      clear p0 p1 p2 hw hs hu d3
      obtain ⟨Wk, hz0⟩ : ∃ Z, Z = wr := ⟨_, rfl⟩
      subst hz0
      go_loopw [4] (fun i wq => ∃ (m : Nat), m ≤ row.length ∧ i = .int .i64 m ∧ Below Wk.heap.size Wk wq ∧ Hid (∀ j (h : j < row.length), j < m → row[j].bad N.rows.length = false)) (fun i _ => row.length - (intOf i).toNat)
      case atStart => exact ⟨0, by omega, rfl, (Below.refl _ _).drew, Lib.hid fun j h hj => by omega⟩
      case round =>
        clear hXd
        obtain ⟨m, hm, rfl, hY, HBAD⟩ := hrel
        have hX2 := hX.trans (hY.mono (HF.out _ hX).2.2.2.2.2.2)
        obtain ⟨p0, p1, p2, _, _, hw, hs⟩ := HF.out _ hX2
        obtain ⟨hu, hru⟩ := HU.out _ hY
        by_cases hml : m < row.length
        · obtain ⟨b2, o2, rfl, hA, hcap2, hbl2⟩ := hru.elem m hml
          have hq2 : (m : Int) < (row.length : Int) := by omega
          have hmem2 : Hid ((row[m]'hml) ∈ row) := Lib.hid (List.getElem_mem hml)
          have HB2 : Hid ((row[m]'hml).bad N.rows.length = false → ∀ j (h : j < row.length), j < m + 1 → row[j].bad N.rows.length = false) := Lib.hid fun hb j h hj => by
            rcases Nat.lt_or_ge j m with h1 | h1
            · exact HBAD.out j h h1
            · obtain rfl : j = m := by omega
              exact hb
          generalize row[m]'hml = c at *
          have hZ5 : Row oV (wr.alloc (.cells #[.int .i64 0, .int .i64 0, .int .u8 0] 75)) wr.heap.size 75 [oi 0, oi 0, ⟨.int .u8 0, rfl⟩] := Row.new _ _ rfl
          go_upto_region 12 with (first
            | ((with_reducible refine load_agg (f := oV) (l := ceL c) (C := ceA c) aggCe (.tmp 70) ?_ ?_ b2 (o2 + m * 3) ?_ hA rfl ?_); rfl; rfl; rfl)
            | ((with_reducible refine store_agg (f := oV) (l := [oi 0, oi 0, ⟨.int .u8 0, rfl⟩]) (l' := ceL c) (t := 75) (C := ceA c) aggCe (.tmp 5) (.tmp 71) ?_ ?_ wr.heap.size ?_ ?_ ?_ hZ5 ?_ oV_one ?_); rfl; rfl; rfl; rfl; rfl; rfl; (intro W2 hs2 hG2 hz2)))
          have hY2 := (hY.alloc hY.size (.cells #[.int .i64 0, .int .i64 0, .int .u8 0] 75)).grown hG2 (by simp; have := hY.size; omega) (fun k e => by cases e; exact hY.size)
          have hX3 := hX.trans (hY2.mono (HF.out _ hX).2.2.2.2.2.2)
          have c0 : W2.cell? ⟨wr.heap.size, 0, none⟩ = some (.int .i64 c.tgt) := by rw [hs2.cell?]; rfl
          have c1 : W2.cell? ⟨wr.heap.size, 1, none⟩ = some (.int .i64 c.act) := by rw [hs2.cell?]; rfl
          have c2 : W2.cell? ⟨wr.heap.size, 2, none⟩ = some (.int .u8 (c.b.toNat : Int)) := by rw [hs2.cell?]; rfl
          clear p0 p1 p2 hw hs hu hru hA hG2 hz2 hZ5 hs2
          obtain ⟨p0, p1, p2, _, _, hw, hs⟩ := HF.out _ hX3
          have hYW := (Below.refl W2.heap.size W2)
          replace hYW := Lib.hid hYW
          rw [put_none]
          go_cut [102] (fun s102 wx => s102 = .bool (c.bad N.rows.length) ∧ wx = W2)
          · by_cases h1 : c.tgt < 0
            · have hv : c.bad N.rows.length = true := decide_eq_true (by omega)
              have e1 : decide (c.tgt < 0) = true := decide_eq_true h1
              go_wp2
              go_meet
              exact ⟨by rw [hv], rfl⟩
            have e1 : decide (c.tgt < 0) = false := decide_eq_false h1
            by_cases h2 : (N.rows.length : Int) ≤ c.tgt
            · have hv : c.bad N.rows.length = true := decide_eq_true (by omega)
              have e2 : decide ((N.rows.length : Int) ≤ c.tgt) = true := decide_eq_true h2
              go_wp2
              go_meet
              exact ⟨by rw [hv], rfl⟩
            have e2 : decide ((N.rows.length : Int) ≤ c.tgt) = false := decide_eq_false h2
            by_cases h3 : c.act < 0
            · have hv : c.bad N.rows.length = true := decide_eq_true (by omega)
              have e3 : decide (c.act < 0) = true := decide_eq_true h3
              go_wp2
              go_meet
              exact ⟨by rw [hv], rfl⟩
            have e3 : decide (c.act < 0) = false := decide_eq_false h3
            by_cases h4 : 3 < c.act
            · have hv : c.bad N.rows.length = true := decide_eq_true (by omega)
              have e4 : decide (3 < c.act) = true := decide_eq_true h4
              go_wp2
              go_meet
              exact ⟨by rw [hv], rfl⟩
            have e4 : decide (3 < c.act) = false := decide_eq_false h4
            by_cases h5 : c.act = 2
            · have hv : c.bad N.rows.length = false := decide_eq_false (by omega)
              have h5' : (c.act != 2) = false := by simpa using h5
              go_wp2
              go_meet
              exact ⟨by rw [hv], rfl⟩
            have h5' : (c.act != 2) = true := by simpa using h5
            by_cases h6 : (c.b.toNat : Int) = 0
            · have hv : c.bad N.rows.length = false := decide_eq_false (by omega)
              have h6' : ((c.b.toNat : Int) != 0) = false := by simpa using h6
              clear h6
              go_wp2
              go_meet
              exact ⟨by rw [hv], rfl⟩
            · have h6' : ((c.b.toNat : Int) != 0) = true := by simpa using h6
              have hv : c.bad N.rows.length = true := decide_eq_true (by omega)
              go_wp2
              go_meet
              exact ⟨by rw [hv], rfl⟩
          obtain ⟨h102, rfl⟩ := hcut
          obtain ⟨Z2, hz0⟩ : ∃ Z, Z = wc := ⟨_, rfl⟩
          subst hz0
          clear c0 c1 c2
          cases hbad : c.bad N.rows.length with
          | true =>
            have hv : N.valid = false := not_valid fun h => by
              have := (((valid_iff N).1 h).2.2.2.2 _ hmem.out).2
              rw [List.any_eq_false] at this
              exact this _ hmem2.out hbad
            replace hv := Lib.hid hv
            rw [hbad] at h102
            subst h102
            go_wp2
            go_ret
            exact ⟨by first | (rw [hv.out]; rfl) | rw [hv.out], hw⟩
          | false =>
            have hB3 := Lib.hid (HB2.out hbad)
            rw [hbad] at h102
            subst h102
            go_wp2_with fail
            go_roundw
            case rel => exact ⟨m + 1, by omega, by go_num, hY2, hB3⟩
            case measure => simp [intOf]; omega
        · obtain rfl : m = row.length := by omega
          have hq2 : ¬ (row.length : Int) < (row.length : Int) := by omega
          have hOK2 : Hid (∀ j (h : j < N.rows.length), j < k + 1 → N.rows[j].length = N.cls.length ∧ N.rows[j].any (·.bad N.rows.length) = false) := Lib.hid fun j h hj => by
            rcases Nat.lt_or_ge j k with h1 | h1
            · exact HOK.out j h h1
            · obtain rfl : j = k := by omega
              rw [← hrow.out]
              refine ⟨by omega, ?_⟩
              rw [List.any_eq_false]
              intro x hx
              obtain ⟨i, hi, rfl⟩ := List.getElem_of_mem hx
              rw [HBAD.out i hi hi]
              simp
          clear hrow hru
          go_wp2_with fail
          go_roundw
          case rel => exact ⟨k + 1, by omega, by go_num, hX2, hOK2⟩
          case measure => simp [intOf]; omega
    · have hv : N.valid = true := valid_of_part h0.out hp.out fun r hr => by obtain ⟨j, hj, rfl⟩ := List.getElem_of_mem hr; exact HOK.out j hj (by omega)
      have hq : ¬ (k : Int) < (N.rows.length : Int) := by omega
      go_wp2
      go_ret
      exact ⟨by first | rfl | (rw [hv]; rfl), hw⟩

set_option maxHeartbeats 8000000 in
theorem rState (w : World) (N : NZ) (pc pr pe : Option Addr) (kc kr ke : Nat) (at_ : Int) (r : Bool) (hv : NzAt w (.agg #[.slice pc N.cls.length kc, .slice pr N.rows.length kr, .slice pe N.ends.length ke]) N) :
    Calls Tryz.prog 32 #[.agg #[.slice pc N.cls.length kc, .slice pr N.rows.length kr, .slice pe N.ends.length ke], .agg #[.int .i64 at_, .bool r]] w fun e w' => e = .returned (.bool (N.okAt at_)) ∧ Below w.heap.size w w' := by
  have HV := Lib.hid hv
  clear hv
  go_enter Tryz.func32, Tryz.ntmps32
  go_upto_region 1 with (fail)
  obtain ⟨W, hW, hB, hs, g0, g1⟩ : ∃ W, ((w.alloc (.cells #[.slice pc N.cls.length kc, .slice pr N.rows.length kr, .slice pe N.ends.length ke] 26)).alloc (.cells #[.int .i64 at_, .bool r] 28)) = W ∧ Below w.heap.size w W ∧ w.heap.size + 2 ≤ W.heap.size ∧ W.heap[w.heap.size]? = some (.cells #[.slice pc N.cls.length kc, .slice pr N.rows.length kr, .slice pe N.ends.length ke] 26 (0, 0)) ∧ W.heap[w.heap.size + 1]? = some (.cells #[.int .i64 at_, .bool r] 28 (0, 0)) := by
    refine ⟨_, rfl, below_al (below_al (Below.refl _ _) (Nat.le_refl _) _) (Nat.le_refl _) _, by simp, ?_, ?_⟩
    all_goals repeat (first | (refine heap_new' _ _ _ ?_; (simp; done)) | (refine (Below.heap_alloc _ _ _ ?_).trans ?_; · (simp <;> omega)))
  rw [hW]
  clear hW
  have rn : Row oV W w.heap.size 26 [slO pc N.cls.length kc, slO pr N.rows.length kr, slO pe N.ends.length ke] := g0
  have rs : Row oV W (w.heap.size + 1) 28 [oi at_, ob r] := g1
  clear g0 g1
  have c0 : W.cell? ⟨w.heap.size, 0, none⟩ = some (.slice pc N.cls.length kc) := by rw [rn.cell?]; rfl
  have c1 : W.cell? ⟨w.heap.size, 1, none⟩ = some (.slice pr N.rows.length kr) := by rw [rn.cell?]; rfl
  have c2 : W.cell? ⟨w.heap.size, 2, none⟩ = some (.slice pe N.ends.length ke) := by rw [rn.cell?]; rfl
  go_wp2_with fail
  refine (rValid W _ N (HV.out.below hB)).mono ?_
  rintro e W1 ⟨rfl, hB1⟩
  replace rn := rn.below hB1 rn.lt
  replace rs := rs.below hB1 rs.lt
  replace hB := hB.trans (hB1.mono hB.size)
  clear c0 c1 c2 hB1
  have c1 : W1.cell? ⟨w.heap.size, 1, none⟩ = some (.slice pr N.rows.length kr) := by rw [rn.cell?]; rfl
  have s0 : W1.cell? ⟨w.heap.size + 1, 0, none⟩ = some (.int .i64 at_) := by rw [rs.cell?]; rfl
  clear rn rs
  cases hval : N.valid with
  | false =>
    have ho : Hid (N.okAt at_ = false) := Lib.hid (by simp [NZ.okAt, hval])
    clear hval
    go_wp2
    go_ret
    exact ⟨by first | (rw [ho.out]; rfl) | rw [ho.out], hB⟩
  | true =>
    by_cases q1 : 0 ≤ at_
    · have b1 : decide (0 ≤ at_) = true := decide_eq_true q1
      by_cases q2 : at_ < (N.rows.length : Int)
      · have ho : Hid (N.okAt at_ = true) := Lib.hid (by unfold NZ.okAt; rw [decide_eq_true ⟨q1, q2⟩, hval]; rfl)
        have b2 : decide (at_ < (N.rows.length : Int)) = true := decide_eq_true q2
        clear hval
        go_wp2
        go_ret
        exact ⟨by first | (rw [ho.out]; rfl) | rw [ho.out], hB⟩
      · have ho : Hid (N.okAt at_ = false) := Lib.hid (by unfold NZ.okAt; rw [decide_eq_false (fun h => q2 h.2)]; simp)
        have b2 : decide (at_ < (N.rows.length : Int)) = false := decide_eq_false q2
        clear hval
        go_wp2
        go_ret
        exact ⟨by first | (rw [ho.out]; rfl) | rw [ho.out], hB⟩
    · have ho : Hid (N.okAt at_ = false) := Lib.hid (by unfold NZ.okAt; rw [decide_eq_false (fun h => q1 h.1)]; simp)
      have b1 : decide (0 ≤ at_) = false := decide_eq_false q1
      clear hval
      go_wp2
      go_ret
      exact ⟨by first | (rw [ho.out]; rfl) | rw [ho.out], hB⟩
end Go.Proofs.YtgflelodpcgmbaaGreatDoor
