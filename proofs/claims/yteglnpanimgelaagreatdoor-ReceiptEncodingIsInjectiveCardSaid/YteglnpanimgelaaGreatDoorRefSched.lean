/- The reference's schedule and compression compute Sha.sched and Sha.compress. -/
import Derived.WalkKit
import Derived.Outline
import Derived.Lib.Hide
import Derived.OwnWalk
import Derived.LoopTactic
import Derived.Deep.QuietTactic
import Derived.BigQuiet
import Derived.StillTailTactics
import Derived.Test.YteglnpanimgelaaGreatDoorTail
import Derived.WalkSmall
import Derived.Deep.DeepMust
import Derived.Deep.LoopGhost
import Derived.Test.YteglnpanimgelaaGreatDoorRot
import Derived.Test.YteglnpanimgelaaGreatDoorAgg
namespace Go.Proofs.YteglnpanimgelaaGreatDoor
open Go.RowKit Mem

theorem arr127 : AggT Tryz.prog 127 64 := ⟨fun _ => by kernel_rfl, fun _ => by kernel_rfl⟩
theorem arr103 : AggT Tryz.prog 103 8 := ⟨fun _ => by kernel_rfl, fun _ => by kernel_rfl⟩
theorem arr23 : AggT Tryz.prog 23 32 := ⟨fun _ => by kernel_rfl, fun _ => by kernel_rfl⟩

set_option maxRecDepth 100000
set_option maxHeartbeats 1000000 in
theorem refConstants (w : World) : Calls Tryz.prog 63 #[] w fun e w' => ∃ C, e = .returned (.agg C) ∧ Hid (C = (Sha.consts.map u32V).toArray) ∧ Below w.heap.size w w' := by
  go_enter Tryz.func63, Tryz.ntmps63
  go_wp2_with (first | (refine closed_op (o := ⟨some 1, _, _, _, _, _⟩) (u := .agg (Sha.consts.map u32V).toArray) rfl (fun _ => by kernel_rfl) ?_) | (refine store_agg (f := u32V) (l := List.replicate 64 0) (l' := Sha.consts) (t := 127) arr127 _ _ rfl rfl w.heap.size rfl rfl rfl (heap_alloc_new _ _) rfl u32V_one ?_; intro w1 hR hG hz))
  refine bodyPost_ret (v := .agg (Sha.consts.map u32V).toArray) (results_agg (l := Sha.consts) (f := u32V) rfl _ arr127 w.heap.size 0 rfl hR.at) rfl ?_
  exact ⟨_, rfl, Lib.hid rfl, Below.grown ((Below.refl _ _).alloc (Nat.le_refl _) _) hG (by simp) (fun k e => by cases e; exact Nat.le_refl _)⟩
theorem refInitial (w : World) : Calls Tryz.prog 46 #[] w fun e w' => ∃ C, e = .returned (.agg C) ∧ Hid (C = (Sha.init.map u32V).toArray) ∧ Below w.heap.size w w' := by
  go_enter Tryz.func46, Tryz.ntmps46
  go_wp2
  refine bodyPost_ret (v := .agg (Sha.init.map u32V).toArray) (results_agg (l := Sha.init) (f := u32V) rfl _ arr103 w.heap.size 0 rfl (Row.at (t := 103) (heap_alloc_new _ _))) rfl ?_
  exact ⟨_, rfl, Lib.hid rfl, (Below.refl _ _).alloc (Nat.le_refl _) _⟩

set_option maxHeartbeats 1000000 in
theorem refSchedule (w : World) (bb bo cap : Nat) (b : List UInt8) (hb : At u8V w bb bo b) (hb64 : b.length = 64) (hbb : bb < w.heap.size) :
    Calls Tryz.prog 62 #[.slice (some ⟨bb, bo, none⟩) 64 cap] w fun e w' => ∃ C, e = .returned (.agg C) ∧ Hid (C = ((Sha.sched b 64).map u32V).toArray) ∧ Below w.heap.size w w' := by
  go_enter Tryz.func62, Tryz.ntmps62
  go_wp2_with (first | (refine closed_op (o := ⟨some 7, _, _, _, _, _⟩) (u := .agg ((List.replicate 64 0).map u32V).toArray) rfl (fun _ => by kernel_rfl) ?_) | (refine store_agg (f := u32V) (l := List.replicate 64 0) (l' := List.replicate 64 0) (t := 127) arr127 (.tmp 3) (.tmp 7) rfl rfl (w.heap.size + 1) rfl rfl rfl (heap_alloc2_new _ _ _) rfl u32V_one ?_; intro w1 hR hG hz))
  have hbl : bb < w1.heap.size := Nat.lt_of_lt_of_le hbb (by rw [hz]; simp; omega)
  have hb1 : At u8V w1 bb bo b := (((hb.below ((Below.refl _ _).alloc (Nat.le_refl _) _) hbb).below ((Below.refl _ _).alloc (Nat.le_refl _) _) (by simp; omega)).grown hG (by simp; omega) (by simp; omega))
  have hB1 : Below w.heap.size w w1 := Below.grown (((Below.refl _ _).alloc (Nat.le_refl _) _).alloc (by simp) _) hG (by simp; omega) (fun k e => by cases e; omega)
  have hR2 : Row u32V w1 w.heap.size 127 (List.replicate 64 0) := Row.grown (b := w.heap.size) (((Row.new w (Obj.cells ((List.replicate 64 0).map u32V).toArray 127) rfl)).alloc _) hG (by simp)
  have hR1 : Row u32V w1 (w.heap.size + 1) 127 (Sha.sched b 0 ++ List.replicate (64 - 0) 0) := hR
  clear hR hG hz hb hbl
  have HZ := Lib.hid (show (List.replicate 64 (0 : UInt32)).length = 64 from rfl)
  generalize (List.replicate 64 (0 : UInt32)) = zeros at hR2 HZ
  go_loopw [4] (fun i wr => ∃ k : Nat, k ≤ 64 ∧ i = .int .i64 k ∧ Row u32V wr (w.heap.size + 1) 127 (Sha.sched b k ++ List.replicate (64 - k) 0) ∧ Row u32V wr w.heap.size 127 zeros ∧ At u8V wr bb bo b ∧ Below w.heap.size w wr) (fun i _ => 64 - (intOf i).toNat)
  case atStart => exact ⟨0, by omega, rfl, hR1, hR2, hb1, hB1⟩
  case round =>
    clear hR1 hR2 hb1 hB1
    obtain ⟨k, hk, rfl, hR, hR2, hbw, hB⟩ := hrel
    have q4 : (k : Int) < 64 ∨ k = 64 := by omega
    by_cases hlt : k < 64
    · by_cases h16 : k < 16
      · skip
        have c0 : wr.cell? ⟨bb, bo + 4 * k, none⟩ = some (.int .u8 (b[4 * k]?.getD 0).toNat) := hbw.cell 0 (4 * k) (by omega)
        have c1 : wr.cell? ⟨bb, bo + (4 * k + 1), none⟩ = some (.int .u8 (b[4 * k + 1]?.getD 0).toNat) := hbw.cell 0 (4 * k + 1) (by omega)
        have c2 : wr.cell? ⟨bb, bo + (4 * k + 2), none⟩ = some (.int .u8 (b[4 * k + 2]?.getD 0).toNat) := hbw.cell 0 (4 * k + 2) (by omega)
        have c3 : wr.cell? ⟨bb, bo + (4 * k + 3), none⟩ = some (.int .u8 (b[4 * k + 3]?.getD 0).toNat) := hbw.cell 0 (4 * k + 3) (by omega)
        have w0 : IntKind.i64.wrap (4 * (k : Int)) = 4 * (k : Int) := wI _ (by omega) (by omega)
        have n0 : (4 * (k : Int)).toNat = 4 * k := by omega
        have p0 : 0 ≤ 4 * (k : Int) := by omega
        have q0 : 4 * (k : Int) < 64 := by omega
        have w1 : IntKind.i64.wrap (4 * (k : Int) + 1) = 4 * (k : Int) + 1 := wI _ (by omega) (by omega)
        have n1 : (4 * (k : Int) + 1).toNat = 4 * k + 1 := by omega
        have p1 : 0 ≤ 4 * (k : Int) + 1 := by omega
        have q1 : 4 * (k : Int) + 1 < 64 := by omega
        have w2 : IntKind.i64.wrap (4 * (k : Int) + 2) = 4 * (k : Int) + 2 := wI _ (by omega) (by omega)
        have n2 : (4 * (k : Int) + 2).toNat = 4 * k + 2 := by omega
        have p2 : 0 ≤ 4 * (k : Int) + 2 := by omega
        have q2 : 4 * (k : Int) + 2 < 64 := by omega
        have w3 : IntKind.i64.wrap (4 * (k : Int) + 3) = 4 * (k : Int) + 3 := wI _ (by omega) (by omega)
        have n3 : (4 * (k : Int) + 3).toNat = 4 * k + 3 := by omega
        have p3 : 0 ≤ 4 * (k : Int) + 3 := by omega
        have q3 : 4 * (k : Int) + 3 < 64 := by omega
  
        have q4 : (k : Int) < 64 := by omega
        have r1 := Words.W_byte
        have r2 := Words.W_shl24
        have r3 := Words.W_shl16
        have r4 := Words.W_shl8
        have r5 := Words.W_mod4
        have r6 := Words.W_add
        go_wp2_with fail
        go_still_tail 35, (by kernel_rfl)
        change wpList _ _ _ _ _ wr.drew
        have hR3 := hR.drew
        have hR4 := hR2.drew
        have hb4 : At u8V wr.drew bb bo b := hbw
        have hf := hR3.frozen k
        have hc := hR3.cell 0 k (by simp [Sha.sched_length]; omega)
        have hB4 : Below w.heap.size w wr.drew := hB.drew
        generalize wr.drew = w4 at hR3 hR4 hb4 hf hc hB4 ⊢
        clear c0 c1 c2 c3
        go_wp2
        have hx : Sha.word b k = _ := rfl
        have hR5 := hR3.set k (Sha.word b k)
        rw [Sha.sched_set b k (64 - k) _ (by rw [if_pos h16]) (by omega)] at hR5
        have hR6 := hR4.set_other (b' := w.heap.size + 1) (by omega) k (u32V (Sha.word b k))
        have hb5 : At u8V (w4.setCell ⟨w.heap.size + 1, k, none⟩ (u32V (Sha.word b k))) bb bo b := fun i hi => (World.cell?_of_block (a := ⟨bb, bo + i, none⟩) (Below.heap_setCell _ _ _ _ (by show bb ≠ w.heap.size + 1; omega))).trans (hb4 i hi)
        have hB5 : Below w.heap.size w (w4.setCell ⟨w.heap.size + 1, k, none⟩ (u32V (Sha.word b k))) := Below.setCell hB4 (p := ⟨w.heap.size + 1, k, none⟩) (by show w.heap.size ≤ w.heap.size + 1; omega) _
        rw [Words.join_bytes]
        go_roundw
        case rel => exact ⟨k + 1, by omega, by go_num, hR5, hR6, hb5, hB5⟩
        case measure => simp [intOf]; omega
      · skip
        have w2 : IntKind.i64.wrap ((k : Int) - 2) = (k : Int) - 2 := wI _ (by omega) (by omega)
        have n2 : ((k : Int) - 2).toNat = k - 2 := by omega
        have p2 : 0 ≤ (k : Int) - 2 := by omega
        have q2 : (k : Int) - 2 < 64 := by omega
        have m2 : (2 : Int) ≤ (k : Int) := by omega
        have l2 : 2 ≤ k := by omega
        have w7 : IntKind.i64.wrap ((k : Int) - 7) = (k : Int) - 7 := wI _ (by omega) (by omega)
        have n7 : ((k : Int) - 7).toNat = k - 7 := by omega
        have p7 : 0 ≤ (k : Int) - 7 := by omega
        have q7 : (k : Int) - 7 < 64 := by omega
        have m7 : (7 : Int) ≤ (k : Int) := by omega
        have l7 : 7 ≤ k := by omega
        have w15 : IntKind.i64.wrap ((k : Int) - 15) = (k : Int) - 15 := wI _ (by omega) (by omega)
        have n15 : ((k : Int) - 15).toNat = k - 15 := by omega
        have p15 : 0 ≤ (k : Int) - 15 := by omega
        have q15 : (k : Int) - 15 < 64 := by omega
        have m15 : (15 : Int) ≤ (k : Int) := by omega
        have l15 : 15 ≤ k := by omega
        have w16 : IntKind.i64.wrap ((k : Int) - 16) = (k : Int) - 16 := wI _ (by omega) (by omega)
        have n16 : ((k : Int) - 16).toNat = k - 16 := by omega
        have p16 : 0 ≤ (k : Int) - 16 := by omega
        have q16 : (k : Int) - 16 < 64 := by omega
        have m16 : (16 : Int) ≤ (k : Int) := by omega
        have l16 : 16 ≤ k := by omega
  
        have cell : ∀ j, j < k → wr.cell? ⟨w.heap.size + 1, j, none⟩ = some (.int .u32 (Words.W ((Sha.sched b k)[j]?.getD 0))) := fun j hj => by rw [← Sha.sched_get b k (64 - k) j hj]; exact hR.cell 0 j (by simp [Sha.sched_length]; omega)
        have c2 : wr.cell? ⟨w.heap.size + 1, k - 2, none⟩ = some (.int .u32 (Words.W ((Sha.sched b k)[k - 2]?.getD 0))) := cell (k - 2) (by omega)
        have c15 : wr.cell? ⟨w.heap.size + 1, k - 15, none⟩ = some (.int .u32 (Words.W ((Sha.sched b k)[k - 15]?.getD 0))) := cell (k - 15) (by omega)
        clear cell
        have q4 : (k : Int) < 64 := by omega
        have g16 : ¬ (k : Int) < 16 := by omega
        have r1 := Words.W_xor
        have r2 := Words.W_shr3
        have r3 := Words.W_shr10
        have r4 := Words.W_add
        have r5 := Words.W_mod3
        have r6 := Words.W_mod4
        go_wp2_with fail
        go_quiet (fail)
        go_wp2_with fail
        have hR3 := hR.drewN nq
        have hR4 := hR2.drewN nq
        have hb4 : At u8V (wr.drewN nq) bb bo b := hbw
        have hB4 := below_drewN hB nq
        clear c2 c15
        generalize wr.drewN nq = w5 at hR3 hR4 hb4 hB4 ⊢
        have cell : ∀ j, j < k → w5.cell? ⟨w.heap.size + 1, j, none⟩ = some (.int .u32 (Words.W ((Sha.sched b k)[j]?.getD 0))) := fun j hj => by rw [← Sha.sched_get b k (64 - k) j hj]; exact hR3.cell 0 j (by simp [Sha.sched_length]; omega)
        have c7 : w5.cell? ⟨w.heap.size + 1, k - 7, none⟩ = some (.int .u32 (Words.W ((Sha.sched b k)[k - 7]?.getD 0))) := cell (k - 7) (by omega)
        have c16 : w5.cell? ⟨w.heap.size + 1, k - 16, none⟩ = some (.int .u32 (Words.W ((Sha.sched b k)[k - 16]?.getD 0))) := cell (k - 16) (by omega)
        clear cell
        refine region_quiet_tail 29 (by kernel_rfl) (by kernel_rfl) ?_
        simp only [List.take_succ_cons, List.take_zero, List.drop_succ_cons, List.drop_zero]
        repeat (go_big_quiet_step ((go_at_call 64; exact Calls.quiet_of (refRotate _ _ (by omega) (by omega) _))))
        refine wpQuiet_nil ?_
        intro _ hw'
        obtain ⟨nq, hw''⟩ := hw'
        subst hw''
        have hR5 := hR3.drewN nq
        have hR6 := hR4.drewN nq
        have hb5 : At u8V (w5.drewN nq) bb bo b := hb4
        have hB5 := below_drewN hB4 nq
        clear c7 c16
        have hf := hR5.frozen k
        have hc := hR5.cell 0 k (by simp [Sha.sched_length]; omega)
        generalize w5.drewN nq = w4 at hR5 hR6 hb5 hf hc hB5 ⊢
        go_wp2
        have hR7 := hR5.set k (Sha.next (Sha.sched b k) k)
        rw [Sha.sched_set b k (64 - k) _ (by rw [if_neg h16]) (by omega)] at hR7
        have hR8 := hR6.set_other (b' := w.heap.size + 1) (by omega) k (u32V (Sha.next (Sha.sched b k) k))
        have hb6 : At u8V (w4.setCell ⟨w.heap.size + 1, k, none⟩ (u32V (Sha.next (Sha.sched b k) k))) bb bo b := fun i hi => (World.cell?_of_block (a := ⟨bb, bo + i, none⟩) (Below.heap_setCell _ _ _ _ (by show bb ≠ w.heap.size + 1; omega))).trans (hb5 i hi)
        have hB6 : Below w.heap.size w (w4.setCell ⟨w.heap.size + 1, k, none⟩ (u32V (Sha.next (Sha.sched b k) k))) := Below.setCell hB5 (p := ⟨w.heap.size + 1, k, none⟩) (by show w.heap.size ≤ w.heap.size + 1; omega) _
        go_roundw
        case rel => exact ⟨k + 1, by omega, by go_num, hR7, hR8, hb6, hB6⟩
        case measure => simp [intOf]; omega
    · obtain rfl : k = 64 := by omega
      rw [show (64 - 64 : Nat) = 0 from rfl, List.replicate_zero, List.append_nil] at hR
      have HL := Lib.hid (Sha.sched_length b 64)
      generalize hws : Sha.sched b 64 = ws at hR HL
      have HW := Lib.hid hws
      clear hws
      clear q4 hlt hk
      obtain ⟨C, hC⟩ : ∃ C, C = (ws.map u32V).toArray := ⟨_, rfl⟩
      have HC := Lib.hid hC
      clear hC
      have harr : AggT Tryz.prog 127 ws.length := by rw [HL.out]; exact arr127
      go_wp2_with (refine load_agg (ty := 127) (f := u32V) (l := ws) harr (.tmp 3) rfl rfl (w.heap.size + 1) 0 rfl hR.at HC.out ?_; go_must (refine store_agg (f := u32V) (l := zeros) (l' := ws) (t := 127) harr (.tmp 2) (.tmp 86) rfl rfl w.heap.size rfl HC.out rfl hR2 (HL.out.trans HZ.out.symm) u32V_one ?_); intro w1 hR3 hG hz1)
      refine bodyPost_ret (v := .agg (ws.map u32V).toArray) (results_agg (l := ws) (f := u32V) rfl _ harr w.heap.size 0 rfl hR3.at) rfl ?_
      exact ⟨_, rfl, Lib.hid (by rw [HW.out]), hB.grown hG hB.size (fun k e => by cases e; exact Nat.le_refl _)⟩
end Go.Proofs.YteglnpanimgelaaGreatDoor
