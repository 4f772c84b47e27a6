import Derived.WalkKit
import Derived.Outline
import Derived.Lib.Hide
import Derived.OwnWalk
import Derived.LoopTactic
import Derived.Deep.QuietTactic
import Derived.BigQuiet
import Derived.BigRegion
import Derived.StillTailTactics
import Derived.WalkSmall
import Derived.Deep.LoopGhost
import Derived.Deep.DeepMust
import Derived.Test.YteglnpanimgelaaGreatDoorRot
import Derived.Test.YteglnpanimgelaaGreatDoorMem
namespace Go.Proofs.YteglnpanimgelaaGreatDoor
open Go.RowKit Mem
theorem rounds_index (k : Nat) (W : World) (hk : k < 64) : (Instr.index 127 (.agg (Sha.consts.map u32V).toArray) (.int .i64 k)).run Tryz.prog W = .ok (.int .u32 (Words.W (Sha.consts[k]?.getD 0))) W := by
  have hl : Sha.consts.length = 64 := rfl
  have hz : ∀ w, (Go.sizeOf 102).run Tryz.prog w = Result.ok 1 w := fun _ => by kernel_rfl
  have ha : ∀ w, (isAgg 102).run Tryz.prog w = Result.ok false w := fun _ => by kernel_rfl
  simp [Instr.index, asIntOf, Sem.run_bind, run_underlying Tryz.underlying127, hz, hk]
  simp [part, ha, Sem.run_bind]
  rw [List.getElem?_eq_getElem (by omega)]
  simp; rfl

set_option maxRecDepth 100000
set_option maxHeartbeats 1000000 in
theorem digestCompress (w : World) (sb bb bo cap : Nat) (s : List UInt32) (b : List UInt8) (ts : TypeId) (hs : Row u32V w sb ts s) (hs8 : s.length = 8) (hb : At u8V w bb bo b) (hb64 : b.length = 64) (hbb : bb < w.heap.size) (tg : TypeId) (fg : Nat × Nat) (hg : w.heap[0]? = some (.cells (Sha.consts.map u32V).toArray tg fg)) :
    Calls Tryz.prog 50 #[.pointer (some ⟨sb, 0, none⟩), .slice (some ⟨bb, bo, none⟩) 64 cap] w fun e w' => e = .returned (.tuple #[]) ∧ w.grownBy w' (some sb) ∧ Row u32V w' sb ts (Sha.compress s b) := by
  obtain ⟨a0, a1, a2, a3, a4, a5, a6, a7, rfl⟩ : ∃ a0 a1 a2 a3 a4 a5 a6 a7, s = [a0, a1, a2, a3, a4, a5, a6, a7] := by
    match s, hs8 with
    | [a0, a1, a2, a3, a4, a5, a6, a7], _ => exact ⟨a0, a1, a2, a3, a4, a5, a6, a7, rfl⟩
  clear hs8
  go_enter Tryz.func50, Tryz.ntmps50
  go_wp2_with fail
  have hR0 : Row u32V (w.alloc (Obj.cells (List.replicate 64 (u32V 0)).toArray 127)) w.heap.size 127 (Sha.sched b 0 ++ List.replicate 64 0) := Row.new _ _ (by simp [Sha.sched, u32V])
  have hB0 : Below w.heap.size w (w.alloc (Obj.cells (List.replicate 64 (u32V 0)).toArray 127)) := (Below.refl _ _).alloc (Nat.le_refl _) _
  simp only [List.replicate_succ, List.replicate_zero, u32V, show Words.W 0 = 0 from rfl] at hR0 hB0
  generalize w.alloc _ = w1 at hR0 hB0 ⊢
  go_loopw [17] (fun i wr => ∃ k : Nat, k ≤ 16 ∧ i = .int .i64 k ∧ Row u32V wr w.heap.size 127 (Sha.sched b k ++ List.replicate (64 - k) 0) ∧ Below w.heap.size w wr) (fun i _ => 16 - (intOf i).toNat)
  case atStart => exact ⟨0, by omega, rfl, hR0, hB0⟩
  case round =>
    obtain ⟨k, hk, rfl, hR, hB⟩ := hrel
    by_cases hlt : k < 16
    · skip
      have c0 : wr.cell? ⟨bb, bo + 4 * k, none⟩ = some (.int .u8 (b[4 * k]?.getD 0).toNat) := (hb.below hB hbb).cell 0 (4 * k) (by omega)
      have c1 : wr.cell? ⟨bb, bo + (4 * k + 1), none⟩ = some (.int .u8 (b[4 * k + 1]?.getD 0).toNat) := (hb.below hB hbb).cell 0 (4 * k + 1) (by omega)
      have c2 : wr.cell? ⟨bb, bo + (4 * k + 2), none⟩ = some (.int .u8 (b[4 * k + 2]?.getD 0).toNat) := (hb.below hB hbb).cell 0 (4 * k + 2) (by omega)
      have c3 : wr.cell? ⟨bb, bo + (4 * k + 3), none⟩ = some (.int .u8 (b[4 * k + 3]?.getD 0).toNat) := (hb.below hB hbb).cell 0 (4 * k + 3) (by omega)
      have w0 : IntKind.i64.wrap (4 * (k : Int)) = 4 * (k : Int) := wI _ (by omega) (by omega)
      have w1 : IntKind.i64.wrap (4 * (k : Int) + 1) = 4 * (k : Int) + 1 := wI _ (by omega) (by omega)
      have w2 : IntKind.i64.wrap (4 * (k : Int) + 2) = 4 * (k : Int) + 2 := wI _ (by omega) (by omega)
      have w3 : IntKind.i64.wrap (4 * (k : Int) + 3) = 4 * (k : Int) + 3 := wI _ (by omega) (by omega)
      have n0 : (4 * (k : Int)).toNat = 4 * k := by omega
      have n1 : (4 * (k : Int) + 1).toNat = 4 * k + 1 := by omega
      have n2 : (4 * (k : Int) + 2).toNat = 4 * k + 2 := by omega
      have n3 : (4 * (k : Int) + 3).toNat = 4 * k + 3 := by omega
      have p0 : 0 ≤ 4 * (k : Int) := by omega
      have q0 : 4 * (k : Int) < 64 := by omega
      have q1 : 4 * (k : Int) + 1 < 64 := by omega
      have q2 : 4 * (k : Int) + 2 < 64 := by omega
      have q3 : 4 * (k : Int) + 3 < 64 := by omega
      have p1 : 0 ≤ 4 * (k : Int) + 1 := by omega
      have p2 : 0 ≤ 4 * (k : Int) + 2 := by omega
      have p3 : 0 ≤ 4 * (k : Int) + 3 := by omega
      go_wp2_with fail
      have q4 : (k : Int) < 64 := by omega
      have r1 := Words.W_byte
      have r2 := Words.W_shl24
      have r3 := Words.W_shl16
      have r4 := Words.W_shl8
      have r5 := Words.W_or
      go_still_tail 35, (by kernel_rfl)
      change wpList _ _ _ _ _ wr.drew
      have hR1 := hR.drew
      have hf := hR1.frozen k
      have hB1' : Below w.heap.size w wr.drew := hB.drew
      have hc := hR1.cell 0 k (by simp [Sha.sched_length]; omega)
      generalize wr.drew = w4 at hR1 hf hc hB1' ⊢
      go_wp2
      have hR2 := hR1.set k (Sha.word b k)
      rw [Sha.sched_set b k (64 - k) _ (by rw [if_pos hlt]) (by omega)] at hR2
      have hB1 : Below w.heap.size w (w4.setCell ⟨w.heap.size, k, none⟩ (u32V (Sha.word b k))) := Below.setCell hB1' (p := ⟨w.heap.size, k, none⟩) (Nat.le_refl _) _
      go_roundw
      case rel => exact ⟨k + 1, by omega, by go_num, hR2, hB1⟩
      case measure => simp [intOf]; omega
    · obtain rfl : k = 16 := by omega
      clear hlt hk hR0 hB0
      go_wp2_with fail
      rw [show ((16 : Nat) : Int) = 16 from rfl]
      go_loopw [6] (fun i wr => ∃ k : Nat, 16 ≤ k ∧ k ≤ 64 ∧ i = .int .i64 k ∧ Row u32V wr w.heap.size 127 (Sha.sched b k ++ List.replicate (64 - k) 0) ∧ Below w.heap.size w wr) (fun i _ => 64 - (intOf i).toNat)
      case atStart => exact ⟨16, by omega, by omega, rfl, hR, hB⟩
      case round =>
        clear hR hB
        obtain ⟨k, hk16, hk, rfl, hR, hB⟩ := hrel
        by_cases hlt : k < 64
        · skip
          have cell : ∀ j, j < k → wr.cell? ⟨w.heap.size, j, none⟩ = some (.int .u32 (Words.W ((Sha.sched b k)[j]?.getD 0))) := fun j hj => by rw [← Sha.sched_get b k (64 - k) j hj]; exact hR.cell 0 j (by simp [Sha.sched_length]; omega)
          have c2 := cell (k - 2) (by omega)
          have c7 := cell (k - 7) (by omega)
          have c15 := cell (k - 15) (by omega)
          have c16 := cell (k - 16) (by omega)
          clear cell
          have w2 : IntKind.i64.wrap ((k : Int) - 2) = (k : Int) - 2 := wI _ (by omega) (by omega)
          have w7 : IntKind.i64.wrap ((k : Int) - 7) = (k : Int) - 7 := wI _ (by omega) (by omega)
          have w15 : IntKind.i64.wrap ((k : Int) - 15) = (k : Int) - 15 := wI _ (by omega) (by omega)
          have w16 : IntKind.i64.wrap ((k : Int) - 16) = (k : Int) - 16 := wI _ (by omega) (by omega)
          have n2 : ((k : Int) - 2).toNat = k - 2 := by omega
          have n7 : ((k : Int) - 7).toNat = k - 7 := by omega
          have n15 : ((k : Int) - 15).toNat = k - 15 := by omega
          have n16 : ((k : Int) - 16).toNat = k - 16 := by omega
          have p2 : 0 ≤ (k : Int) - 2 := by omega
          have p7 : 0 ≤ (k : Int) - 7 := by omega
          have p15 : 0 ≤ (k : Int) - 15 := by omega
          have p16 : 0 ≤ (k : Int) - 16 := by omega
          have q2 : (k : Int) - 2 < 64 := by omega
          have q7 : (k : Int) - 7 < 64 := by omega
          have q15 : (k : Int) - 15 < 64 := by omega
          have q16 : (k : Int) - 16 < 64 := by omega
          have q0 : (k : Int) < 64 := by omega
          have m7 : (7 : Int) ≤ (k : Int) := by omega
          have m7' : 7 ≤ k := by omega
          have m16 : (16 : Int) ≤ (k : Int) := by omega
          have r1 := Words.W_xor
          have r2 := Words.W_shr3
          have r3 := Words.W_shr10
          have r4 := Words.W_add
          go_wp2_with fail
          go_quiet (fail)
          go_wp2_with (go_at_call 66; refine (rotateLeft32 _ _ (by omega) (by omega) _).mono ?_; rintro e w' ⟨rfl, rfl⟩)
          clear c2 c7 c15 c16
          have hR5 := hR.drewN nq
          have hB5 := below_drewN hB nq
          generalize wr.drewN nq = w5 at hR5 hB5 ⊢
          have cell : ∀ j, j < k → w5.cell? ⟨w.heap.size, j, none⟩ = some (.int .u32 (Words.W ((Sha.sched b k)[j]?.getD 0))) := fun j hj => by rw [← Sha.sched_get b k (64 - k) j hj]; exact hR5.cell 0 j (by simp [Sha.sched_length]; omega)
          have c7 := cell (k - 7) (by omega)
          have c16 := cell (k - 16) (by omega)
          clear cell
          go_still_tail 15, (by kernel_rfl)
          change wpList _ _ _ _ _ w5.drew
          have hR1 := hR5.drew
          have hB1 := hB5.drew
          have hf := hR1.frozen k
          have hc := hR1.cell 0 k (by simp [Sha.sched_length]; omega)
          generalize w5.drew = w4 at hR1 hf hc hB1 ⊢
          clear c7 c16
          go_wp2
          have hR2 := hR1.set k (Sha.next (Sha.sched b k) k)
          rw [Sha.sched_set b k (64 - k) _ (by rw [if_neg (by omega)]) (by omega)] at hR2
          have hB2 : Below w.heap.size w (w4.setCell ⟨w.heap.size, k, none⟩ (u32V (Sha.next (Sha.sched b k) k))) := Below.setCell hB1 (p := ⟨w.heap.size, k, none⟩) (Nat.le_refl _) _
          go_roundw
          case rel => exact ⟨k + 1, by omega, by omega, by go_num, hR2, hB2⟩
          case measure => simp [intOf]; omega
        · obtain rfl : k = 64 := by omega
          clear hlt hk hk16
          have hs1 := hs.below hB hs.lt
          have s0 : wr.cell? ⟨sb, 0, none⟩ = some (.int .u32 (Words.W a0)) := hs1.cell? 0
          have s1 : wr.cell? ⟨sb, 1, none⟩ = some (.int .u32 (Words.W a1)) := hs1.cell? 1
          have s2 : wr.cell? ⟨sb, 2, none⟩ = some (.int .u32 (Words.W a2)) := hs1.cell? 2
          have s3 : wr.cell? ⟨sb, 3, none⟩ = some (.int .u32 (Words.W a3)) := hs1.cell? 3
          have s4 : wr.cell? ⟨sb, 4, none⟩ = some (.int .u32 (Words.W a4)) := hs1.cell? 4
          have s5 : wr.cell? ⟨sb, 5, none⟩ = some (.int .u32 (Words.W a5)) := hs1.cell? 5
          have s6 : wr.cell? ⟨sb, 6, none⟩ = some (.int .u32 (Words.W a6)) := hs1.cell? 6
          have s7 : wr.cell? ⟨sb, 7, none⟩ = some (.int .u32 (Words.W a7)) := hs1.cell? 7
          have hg1 : wr.heap[0]? = some (.cells (Sha.consts.map u32V).toArray tg fg) := (hB.block 0 (by have := hs.lt; omega)).trans hg
          have hidx := rounds_index
          have hsize : ∃ C, C = (Sha.consts.map u32V).toArray ∧ C.size = 64 := ⟨_, rfl, rfl⟩
          obtain ⟨C, hC, hCs⟩ := hsize
          rw [← hC] at hidx hg1
          have HCs := Lib.hid hCs
          clear hC hCs
          go_wp2_with (refine wpList_load_row rfl 127 (.global 0) rfl 0 rfl tg C fg _ (by exact (Below.heap_alloc _ _ _ (by have := (Array.getElem?_eq_some_iff.1 hg1).1; omega)).trans hg1) Tryz.underlying127 rfl (by rw [HCs.out]; kernel_rfl) ?_)
          have hT : Row u32V (wr.alloc (Obj.cells #[.int .u32 (Words.W a0), .int .u32 (Words.W a1), .int .u32 (Words.W a2), .int .u32 (Words.W a3), .int .u32 (Words.W a4), .int .u32 (Words.W a5), .int .u32 (Words.W a6), .int .u32 (Words.W a7)] 103)) wr.heap.size 103 (Sha.St.of [a0, a1, a2, a3, a4, a5, a6, a7]).list := Row.new _ _ rfl
          have hW := hR.alloc (Obj.cells #[.int .u32 (Words.W a0), .int .u32 (Words.W a1), .int .u32 (Words.W a2), .int .u32 (Words.W a3), .int .u32 (Words.W a4), .int .u32 (Words.W a5), .int .u32 (Words.W a6), .int .u32 (Words.W a7)] 103)
          have hS := hs1.alloc (Obj.cells #[.int .u32 (Words.W a0), .int .u32 (Words.W a1), .int .u32 (Words.W a2), .int .u32 (Words.W a3), .int .u32 (Words.W a4), .int .u32 (Words.W a5), .int .u32 (Words.W a6), .int .u32 (Words.W a7)] 103)
          have hBa := hB.alloc hB.size (Obj.cells #[.int .u32 (Words.W a0), .int .u32 (Words.W a1), .int .u32 (Words.W a2), .int .u32 (Words.W a3), .int .u32 (Words.W a4), .int .u32 (Words.W a5), .int .u32 (Words.W a6), .int .u32 (Words.W a7)] 103)
          have htb : w.heap.size < wr.heap.size := hR.lt
          generalize wr.alloc (Obj.cells #[.int .u32 (Words.W a0), .int .u32 (Words.W a1), .int .u32 (Words.W a2), .int .u32 (Words.W a3), .int .u32 (Words.W a4), .int .u32 (Words.W a5), .int .u32 (Words.W a6), .int .u32 (Words.W a7)] 103) = w3 at hT hW hS hBa ⊢
          have hsb2 := hs.lt
          clear hs1 s0 s1 s2 s3 s4 s5 s6 s7 hg1 hR hB hS
          generalize wr.heap.size = tb at hT htb ⊢
          rw [show (64 - 64 : Nat) = 0 from rfl, List.replicate_zero, List.append_nil] at hW
          go_loopw [103] (fun i wr => ∃ k : Nat, k ≤ 64 ∧ i = .int .i64 k ∧ Row u32V wr tb 103 (Sha.rnds (Sha.sched b 64) (Sha.St.of [a0, a1, a2, a3, a4, a5, a6, a7]) k).list ∧ Row u32V wr w.heap.size 127 (Sha.sched b 64) ∧ Below w.heap.size w wr) (fun i _ => 64 - (intOf i).toNat)
          case atStart => exact ⟨0, by omega, rfl, hT, hW, hBa⟩
          case round =>
            clear hT hW hBa
            obtain ⟨k, hk, rfl, hT, hW, hB⟩ := hrel
            by_cases hlt : k < 64
            · skip
              have hTl : Sha.rnds (Sha.sched b 64) (Sha.St.of [a0, a1, a2, a3, a4, a5, a6, a7]) (k + 1) = Sha.rnd (Sha.rnds (Sha.sched b 64) (Sha.St.of [a0, a1, a2, a3, a4, a5, a6, a7]) k) (Sha.consts[k]?.getD 0) ((Sha.sched b 64)[k]?.getD 0) := rfl
              have HTl := Lib.hid hTl
              clear hTl
              generalize Sha.rnds (Sha.sched b 64) (Sha.St.of [a0, a1, a2, a3, a4, a5, a6, a7]) k = t at hT HTl
              have c0 : wr.cell? ⟨tb, 0, none⟩ = some (.int .u32 (Words.W t.a)) := hT.cell? 0
              have c1 : wr.cell? ⟨tb, 1, none⟩ = some (.int .u32 (Words.W t.b)) := hT.cell? 1
              have c2 : wr.cell? ⟨tb, 2, none⟩ = some (.int .u32 (Words.W t.c)) := hT.cell? 2
              have c3 : wr.cell? ⟨tb, 3, none⟩ = some (.int .u32 (Words.W t.d)) := hT.cell? 3
              have c4 : wr.cell? ⟨tb, 4, none⟩ = some (.int .u32 (Words.W t.e)) := hT.cell? 4
              have c5 : wr.cell? ⟨tb, 5, none⟩ = some (.int .u32 (Words.W t.f)) := hT.cell? 5
              have c6 : wr.cell? ⟨tb, 6, none⟩ = some (.int .u32 (Words.W t.g)) := hT.cell? 6
              have c7 : wr.cell? ⟨tb, 7, none⟩ = some (.int .u32 (Words.W t.h)) := hT.cell? 7
              have d0 : wr.cell? ⟨w.heap.size, k, none⟩ = some (.int .u32 (Words.W ((Sha.sched b 64)[k]?.getD 0))) := hW.cell 0 k (by rw [Sha.sched_length]; exact hlt)
              have q0 : (k : Int) < 64 := by omega
              have r1 := Words.W_xor
              have r2 := Words.W_and
              have r3 := Words.W_max
              have r4 := Words.W_mod2
              have r5 := Words.W_mod3
              have r6 := Words.W_mod4
              have r7 := Words.W_mod5
              go_wp2_with fail
              go_quiet ((go_at_call 66; exact quiet_eq (rotateLeft32 _ _ (by omega) (by omega) _)))
              go_wp2_with fail
              have hT5 := hT.drewN nq
              have hW5 := hW.drewN nq
              have hB5 := below_drewN hB nq
              generalize wr.drewN nq = w5 at hT5 hW5 hB5 ⊢
              clear c0 c1 c2 c3 c4 c5 c6 c7 d0
              have c0 : w5.cell? ⟨tb, 0, none⟩ = some (.int .u32 (Words.W t.a)) := hT5.cell? 0
              have c1 : w5.cell? ⟨tb, 1, none⟩ = some (.int .u32 (Words.W t.b)) := hT5.cell? 1
              have c2 : w5.cell? ⟨tb, 2, none⟩ = some (.int .u32 (Words.W t.c)) := hT5.cell? 2
              have c3 : w5.cell? ⟨tb, 3, none⟩ = some (.int .u32 (Words.W t.d)) := hT5.cell? 3
              have c4 : w5.cell? ⟨tb, 4, none⟩ = some (.int .u32 (Words.W t.e)) := hT5.cell? 4
              have c5 : w5.cell? ⟨tb, 5, none⟩ = some (.int .u32 (Words.W t.f)) := hT5.cell? 5
              have c6 : w5.cell? ⟨tb, 6, none⟩ = some (.int .u32 (Words.W t.g)) := hT5.cell? 6
              have c7 : w5.cell? ⟨tb, 7, none⟩ = some (.int .u32 (Words.W t.h)) := hT5.cell? 7
              go_quiet ((go_at_call 66; exact quiet_eq (rotateLeft32 _ _ (by omega) (by omega) _)))
              have hT6 := hT5.drewN nq
              have hW6 := hW5.drewN nq
              have hB6 := below_drewN hB5 nq
              clear c0 c1 c2 c3 c4 c5 c6 c7 
              generalize w5.drewN nq = w6 at hT6 hW6 hB6 ⊢
              have c0 : w6.cell? ⟨tb, 0, none⟩ = some (.int .u32 (Words.W t.a)) := hT6.cell? 0
              have c1 : w6.cell? ⟨tb, 1, none⟩ = some (.int .u32 (Words.W t.b)) := hT6.cell? 1
              have c2 : w6.cell? ⟨tb, 2, none⟩ = some (.int .u32 (Words.W t.c)) := hT6.cell? 2
              have c3 : w6.cell? ⟨tb, 3, none⟩ = some (.int .u32 (Words.W t.d)) := hT6.cell? 3
              have c4 : w6.cell? ⟨tb, 4, none⟩ = some (.int .u32 (Words.W t.e)) := hT6.cell? 4
              have c5 : w6.cell? ⟨tb, 5, none⟩ = some (.int .u32 (Words.W t.f)) := hT6.cell? 5
              have c6 : w6.cell? ⟨tb, 6, none⟩ = some (.int .u32 (Words.W t.g)) := hT6.cell? 6
              have c7 : w6.cell? ⟨tb, 7, none⟩ = some (.int .u32 (Words.W t.h)) := hT6.cell? 7
              have f0 := hT6.frozen 0
              have f1 := hT6.frozen 1
              have f2 := hT6.frozen 2
              have f3 := hT6.frozen 3
              have f4 := hT6.frozen 4
              have f5 := hT6.frozen 5
              have f6 := hT6.frozen 6
              have f7 := hT6.frozen 7
              go_wp2
              have hT7 := ((((((((hT6.set 0 (Sha.tx t (Sha.consts[k]?.getD 0) ((Sha.sched b 64)[k]?.getD 0) + Sha.ty t)).set 1 t.a).set 2 t.b).set 3 t.c).set 4 (t.d + Sha.tx t (Sha.consts[k]?.getD 0) ((Sha.sched b 64)[k]?.getD 0))).set 5 t.e).set 6 t.f).set 7 t.g)
              have hW7 := ((((((((hW6.set_other (Nat.ne_of_lt htb) 0 (u32V (Sha.tx t (Sha.consts[k]?.getD 0) ((Sha.sched b 64)[k]?.getD 0) + Sha.ty t))).set_other (Nat.ne_of_lt htb) 1 (u32V t.a)).set_other (Nat.ne_of_lt htb) 2 (u32V t.b)).set_other (Nat.ne_of_lt htb) 3 (u32V t.c)).set_other (Nat.ne_of_lt htb) 4 (u32V (t.d + Sha.tx t (Sha.consts[k]?.getD 0) ((Sha.sched b 64)[k]?.getD 0)))).set_other (Nat.ne_of_lt htb) 5 (u32V t.e)).set_other (Nat.ne_of_lt htb) 6 (u32V t.f)).set_other (Nat.ne_of_lt htb) 7 (u32V t.g))
              have hB7 := (Below.setCell (Below.setCell (Below.setCell (Below.setCell (Below.setCell (Below.setCell (Below.setCell (Below.setCell hB6 (p := ⟨tb, 0, none⟩) (Nat.le_of_lt htb) (u32V (Sha.tx t (Sha.consts[k]?.getD 0) ((Sha.sched b 64)[k]?.getD 0) + Sha.ty t))) (p := ⟨tb, 1, none⟩) (Nat.le_of_lt htb) (u32V t.a)) (p := ⟨tb, 2, none⟩) (Nat.le_of_lt htb) (u32V t.b)) (p := ⟨tb, 3, none⟩) (Nat.le_of_lt htb) (u32V t.c)) (p := ⟨tb, 4, none⟩) (Nat.le_of_lt htb) (u32V (t.d + Sha.tx t (Sha.consts[k]?.getD 0) ((Sha.sched b 64)[k]?.getD 0)))) (p := ⟨tb, 5, none⟩) (Nat.le_of_lt htb) (u32V t.e)) (p := ⟨tb, 6, none⟩) (Nat.le_of_lt htb) (u32V t.f)) (p := ⟨tb, 7, none⟩) (Nat.le_of_lt htb) (u32V t.g))
              go_roundw
              case rel => exact ⟨k + 1, by omega, by go_num, by rw [HTl.out]; exact hT7, hW7, hB7⟩
              case measure => simp [intOf]; omega
            · obtain rfl : k = 64 := by omega
              clear hlt hk
              have hS := hs.below hB hs.lt
              have hG := grown_of_below hB (some sb)
              clear hB
              have HE := Lib.hid (show Sha.compress [a0, a1, a2, a3, a4, a5, a6, a7] b = Sha.addTo [a0, a1, a2, a3, a4, a5, a6, a7] (Sha.rnds (Sha.sched b 64) (Sha.St.of [a0, a1, a2, a3, a4, a5, a6, a7]) 64).list 8 from rfl)
              have HL8 := Lib.hid (Sha.rnds_list_length (Sha.rnds (Sha.sched b 64) (Sha.St.of [a0, a1, a2, a3, a4, a5, a6, a7]) 64))
              generalize (Sha.rnds (Sha.sched b 64) (Sha.St.of [a0, a1, a2, a3, a4, a5, a6, a7]) 64).list = tl at hT HE HL8
              go_wp2_with fail
              rw [show ((64 : Nat) : Int) = 64 from rfl]
              go_loopw [190] (fun i wr => ∃ k : Nat, k ≤ 8 ∧ i = .int .i64 k ∧ Row u32V wr sb ts (Sha.addTo [a0, a1, a2, a3, a4, a5, a6, a7] tl k) ∧ Row u32V wr tb 103 tl ∧ w.grownBy wr (some sb)) (fun i _ => 8 - (intOf i).toNat)
              case atStart => exact ⟨0, by omega, rfl, hS, hT, hG⟩
              case round =>
                clear hT hS hG
                obtain ⟨k, hk, rfl, hS, hT, hG⟩ := hrel
                have HSl := Lib.hid (Sha.addTo_length [a0, a1, a2, a3, a4, a5, a6, a7] tl k)
                by_cases hlt : k < 8
                · have c0 : wr.cell? ⟨sb, k, none⟩ = some (.int .u32 (Words.W ((Sha.addTo [a0, a1, a2, a3, a4, a5, a6, a7] tl k)[k]?.getD 0))) := hS.cell 0 k (by rw [HSl.out]; exact hlt)
                  have c1 : wr.cell? ⟨tb, k, none⟩ = some (.int .u32 (Words.W (tl[k]?.getD 0))) := hT.cell 0 k (by rw [HL8.out]; exact hlt)
                  have q0 : (k : Int) < 8 := by omega
                  have r4 := Words.W_add
                  go_wp2_with fail
                  go_still_tail 11, (by kernel_rfl)
                  change wpList _ _ _ _ _ wr.drew
                  have hS1 := hS.drew
                  have hT1 := hT.drew
                  have hG1 := grown_drew hG
                  have f0 := hS1.frozen k
                  have c2 : wr.drew.cell? ⟨sb, k, none⟩ = some (.int .u32 (Words.W ((Sha.addTo [a0, a1, a2, a3, a4, a5, a6, a7] tl k)[k]?.getD 0))) := c0
                  generalize wr.drew = w4 at hS1 hT1 hG1 f0 c2 ⊢
                  clear c0 c1
                  go_wp2
                  have hS2 := hS1.set k (((Sha.addTo [a0, a1, a2, a3, a4, a5, a6, a7] tl k)[k]?.getD 0) + (tl[k]?.getD 0))
                  have hT2 := hT1.set_other (b' := sb) (by omega) k (u32V (((Sha.addTo [a0, a1, a2, a3, a4, a5, a6, a7] tl k)[k]?.getD 0) + (tl[k]?.getD 0)))
                  have hG2 := grown_set hG1 k (u32V (((Sha.addTo [a0, a1, a2, a3, a4, a5, a6, a7] tl k)[k]?.getD 0) + (tl[k]?.getD 0)))
                  go_roundw
                  case rel => exact ⟨k + 1, by omega, by go_num, hS2, hT2, hG2⟩
                  case measure => simp [intOf]; omega
                · obtain rfl : k = 8 := by omega
                  go_wp2
                  go_end0
                  exact ⟨rfl, hG, by rw [HE.out]; exact hS⟩
end Go.Proofs.YteglnpanimgelaaGreatDoor
