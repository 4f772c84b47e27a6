/- The reference's compression computes Sha.compress. -/
import Derived.Deep.DeepMust
import Derived.Test.YteglnpanimgelaaGreatDoorRefSched
namespace Go.Proofs.YteglnpanimgelaaGreatDoor
open Go.RowKit Mem
set_option maxRecDepth 100000

theorem zeros127 (w : World) : Row u32V (w.alloc (Obj.cells #[.int .u32 0, .int .u32 0, .int .u32 0, .int .u32 0, .int .u32 0, .int .u32 0, .int .u32 0, .int .u32 0, .int .u32 0, .int .u32 0, .int .u32 0, .int .u32 0, .int .u32 0, .int .u32 0, .int .u32 0, .int .u32 0, .int .u32 0, .int .u32 0, .int .u32 0, .int .u32 0, .int .u32 0, .int .u32 0, .int .u32 0, .int .u32 0, .int .u32 0, .int .u32 0, .int .u32 0, .int .u32 0, .int .u32 0, .int .u32 0, .int .u32 0, .int .u32 0, .int .u32 0, .int .u32 0, .int .u32 0, .int .u32 0, .int .u32 0, .int .u32 0, .int .u32 0, .int .u32 0, .int .u32 0, .int .u32 0, .int .u32 0, .int .u32 0, .int .u32 0, .int .u32 0, .int .u32 0, .int .u32 0, .int .u32 0, .int .u32 0, .int .u32 0, .int .u32 0, .int .u32 0, .int .u32 0, .int .u32 0, .int .u32 0, .int .u32 0, .int .u32 0, .int .u32 0, .int .u32 0, .int .u32 0, .int .u32 0, .int .u32 0, .int .u32 0] 127)) w.heap.size 127 (List.replicate 64 0) := Row.new _ _ rfl
theorem zeros127b (w : World) (A : Obj) : Row u32V ((w.alloc A).alloc (Obj.cells #[.int .u32 0, .int .u32 0, .int .u32 0, .int .u32 0, .int .u32 0, .int .u32 0, .int .u32 0, .int .u32 0, .int .u32 0, .int .u32 0, .int .u32 0, .int .u32 0, .int .u32 0, .int .u32 0, .int .u32 0, .int .u32 0, .int .u32 0, .int .u32 0, .int .u32 0, .int .u32 0, .int .u32 0, .int .u32 0, .int .u32 0, .int .u32 0, .int .u32 0, .int .u32 0, .int .u32 0, .int .u32 0, .int .u32 0, .int .u32 0, .int .u32 0, .int .u32 0, .int .u32 0, .int .u32 0, .int .u32 0, .int .u32 0, .int .u32 0, .int .u32 0, .int .u32 0, .int .u32 0, .int .u32 0, .int .u32 0, .int .u32 0, .int .u32 0, .int .u32 0, .int .u32 0, .int .u32 0, .int .u32 0, .int .u32 0, .int .u32 0, .int .u32 0, .int .u32 0, .int .u32 0, .int .u32 0, .int .u32 0, .int .u32 0, .int .u32 0, .int .u32 0, .int .u32 0, .int .u32 0, .int .u32 0, .int .u32 0, .int .u32 0, .int .u32 0] 127)) (w.heap.size + 1) 127 (List.replicate 64 0) := by
  have := zeros127 (w.alloc A)
  rwa [World.size_alloc] at this
theorem addTo_comm (a0 a1 a2 a3 a4 a5 a6 a7 : UInt32) (t : Sha.St) : Sha.addTo t.list [a0, a1, a2, a3, a4, a5, a6, a7] 8 = Sha.addTo [a0, a1, a2, a3, a4, a5, a6, a7] t.list 8 := by
  simp [Sha.addTo, Sha.St.list, UInt32.add_comm]

set_option maxHeartbeats 1000000 in
theorem refCompress (w : World) (s : List UInt32) (hs8 : s.length = 8) (bb bo cap : Nat) (b : List UInt8) (hb : At u8V w bb bo b) (hb64 : b.length = 64) (hbb : bb < w.heap.size) (C0 : Array Value) (hC0 : Hid (C0 = (s.map u32V).toArray)) :
    Calls Tryz.prog 48 #[.agg C0, .slice (some ⟨bb, bo, none⟩) 64 cap] w fun e w' => ∃ C, e = .returned (.agg C) ∧ Hid (C = ((Sha.compress s b).map u32V).toArray) ∧ Below w.heap.size w w' := by
  obtain ⟨a0, a1, a2, a3, a4, a5, a6, a7, rfl⟩ : ∃ a0 a1 a2 a3 a4 a5 a6 a7, s = [a0, a1, a2, a3, a4, a5, a6, a7] := by
    match s, hs8 with
    | [a0, a1, a2, a3, a4, a5, a6, a7], _ => exact ⟨a0, a1, a2, a3, a4, a5, a6, a7, rfl⟩
  clear hs8
  obtain rfl := hC0.out
  clear hC0
  go_enter Tryz.func48, Tryz.ntmps48
  have harrS : AggT Tryz.prog 127 (Sha.sched b 64).length := by rw [Sha.sched_length]; exact arr127
  have HLS := Lib.hid (Sha.sched_length b 64)
  go_wp2_with fail
  have hb1 : At u8V ((w.alloc (Obj.cells #[.int .u32 (Words.W a0), .int .u32 (Words.W a1), .int .u32 (Words.W a2), .int .u32 (Words.W a3), .int .u32 (Words.W a4), .int .u32 (Words.W a5), .int .u32 (Words.W a6), .int .u32 (Words.W a7)] 103)).alloc (Obj.cells #[.int .u32 0, .int .u32 0, .int .u32 0, .int .u32 0, .int .u32 0, .int .u32 0, .int .u32 0, .int .u32 0] 103)) bb bo b := (hb.below (((Below.refl _ _).alloc (Nat.le_refl _) _).alloc (by simp) _) hbb)
  have hS0 : Row u32V ((w.alloc (Obj.cells #[.int .u32 (Words.W a0), .int .u32 (Words.W a1), .int .u32 (Words.W a2), .int .u32 (Words.W a3), .int .u32 (Words.W a4), .int .u32 (Words.W a5), .int .u32 (Words.W a6), .int .u32 (Words.W a7)] 103)).alloc (Obj.cells #[.int .u32 0, .int .u32 0, .int .u32 0, .int .u32 0, .int .u32 0, .int .u32 0, .int .u32 0, .int .u32 0] 103)) w.heap.size 103 [a0, a1, a2, a3, a4, a5, a6, a7] := by
    refine Row.alloc (Row.new w _ ?_) _
    rfl
  have hZ0 : Row u32V ((w.alloc (Obj.cells #[.int .u32 (Words.W a0), .int .u32 (Words.W a1), .int .u32 (Words.W a2), .int .u32 (Words.W a3), .int .u32 (Words.W a4), .int .u32 (Words.W a5), .int .u32 (Words.W a6), .int .u32 (Words.W a7)] 103)).alloc (Obj.cells #[.int .u32 0, .int .u32 0, .int .u32 0, .int .u32 0, .int .u32 0, .int .u32 0, .int .u32 0, .int .u32 0] 103)) (w.heap.size + 1) 103 (List.replicate 8 0) := by
    have := Row.new (f := u32V) (t := 103) (l := List.replicate 8 0) (w.alloc (Obj.cells #[.int .u32 (Words.W a0), .int .u32 (Words.W a1), .int .u32 (Words.W a2), .int .u32 (Words.W a3), .int .u32 (Words.W a4), .int .u32 (Words.W a5), .int .u32 (Words.W a6), .int .u32 (Words.W a7)] 103)) (Obj.cells #[.int .u32 0, .int .u32 0, .int .u32 0, .int .u32 0, .int .u32 0, .int .u32 0, .int .u32 0, .int .u32 0] 103) rfl
    rwa [World.size_alloc] at this
  have hB0 : Below w.heap.size w ((w.alloc (Obj.cells #[.int .u32 (Words.W a0), .int .u32 (Words.W a1), .int .u32 (Words.W a2), .int .u32 (Words.W a3), .int .u32 (Words.W a4), .int .u32 (Words.W a5), .int .u32 (Words.W a6), .int .u32 (Words.W a7)] 103)).alloc (Obj.cells #[.int .u32 0, .int .u32 0, .int .u32 0, .int .u32 0, .int .u32 0, .int .u32 0, .int .u32 0, .int .u32 0] 103)) := ((Below.refl _ _).alloc (Nat.le_refl _) _).alloc (by simp) _
  refine (refSchedule _ bb bo cap b hb1 hb64 (by simp; omega)).mono ?_
  rintro e w1 ⟨Cs, rfl, HCs, hB1⟩
  have hS1 := hS0.below hB1 hS0.lt
  have hZ1 := hZ0.below hB1 hZ0.lt
  have hBw1 := hB0.trans (hB1.mono hB0.size)
  have hz1 : w.heap.size + 2 ≤ w1.heap.size := by have := hB1.size; simp at this; omega
  clear hS0 hZ0 hB0 hB1 hb1
  go_wp2_with fail
  refine (refConstants _).mono ?_
  rintro e w2 ⟨Cc, rfl, HCc, hB2⟩
  have hS2 := hS1.below hB2 hS1.lt
  have hZ2 := hZ1.below hB2 hZ1.lt
  have hBw2 := hBw1.trans (hB2.mono hBw1.size)
  have hz2 : w.heap.size + 2 ≤ w2.heap.size := by have := hB2.size; omega
  clear hS1 hZ1 hBw1 hB2 hz1
  go_wp2_with ((with_reducible refine store_agg (f := u32V) (l := List.replicate 64 0) (l' := Sha.sched b 64) (t := 127) (C := Cs) harrS (.tmp 5) (.tmp 15) ?_ ?_ w2.heap.size ?_ ?_ ?_ ?_ ?_ u32V_one ?_); rfl; rfl; rfl; exact HCs.out; rfl; exact (zeros127 w2).alloc _; exact HLS.out; intro w3 hR3 hG3 hz3; (with_reducible refine store_agg (f := u32V) (l := List.replicate 64 0) (l' := Sha.consts) (t := 127) (C := Cc) arr127 (.tmp 6) (.tmp 16) ?_ ?_ (w2.heap.size + 1) ?_ ?_ ?_ ?_ ?_ u32V_one ?_); rfl; rfl; rfl; exact HCc.out; rfl; exact (Row.grown (zeros127b w2 _) hG3 (by simp)); rfl; intro w4 hR4 hG4 hz4; have hS4 := (((hS2.alloc _).alloc _).grown hG3 (by simp; omega)).grown hG4 (by simp; omega); have s0 : w4.cell? ⟨w.heap.size, 0, none⟩ = some (.int .u32 (Words.W a0)) := hS4.cell? 0; have s1 : w4.cell? ⟨w.heap.size, 1, none⟩ = some (.int .u32 (Words.W a1)) := hS4.cell? 1; have s2 : w4.cell? ⟨w.heap.size, 2, none⟩ = some (.int .u32 (Words.W a2)) := hS4.cell? 2; have s3 : w4.cell? ⟨w.heap.size, 3, none⟩ = some (.int .u32 (Words.W a3)) := hS4.cell? 3; have s4 : w4.cell? ⟨w.heap.size, 4, none⟩ = some (.int .u32 (Words.W a4)) := hS4.cell? 4; have s5 : w4.cell? ⟨w.heap.size, 5, none⟩ = some (.int .u32 (Words.W a5)) := hS4.cell? 5; have s6 : w4.cell? ⟨w.heap.size, 6, none⟩ = some (.int .u32 (Words.W a6)) := hS4.cell? 6; have s7 : w4.cell? ⟨w.heap.size, 7, none⟩ = some (.int .u32 (Words.W a7)) := hS4.cell? 7)
  have e4 : w4.heap.size = w2.heap.size + 1 + 1 := by rw [hz4, hz3]; simp
  have hT0 : Row u32V (w4.alloc (Obj.cells #[.int .u32 (Words.W a0), .int .u32 (Words.W a1), .int .u32 (Words.W a2), .int .u32 (Words.W a3), .int .u32 (Words.W a4), .int .u32 (Words.W a5), .int .u32 (Words.W a6), .int .u32 (Words.W a7)] 103)) (w2.heap.size + 1 + 1) 103 (Sha.St.of [a0, a1, a2, a3, a4, a5, a6, a7]).list := by
    have := Row.new (f := u32V) (t := 103) (l := (Sha.St.of [a0, a1, a2, a3, a4, a5, a6, a7]).list) w4 (Obj.cells #[.int .u32 (Words.W a0), .int .u32 (Words.W a1), .int .u32 (Words.W a2), .int .u32 (Words.W a3), .int .u32 (Words.W a4), .int .u32 (Words.W a5), .int .u32 (Words.W a6), .int .u32 (Words.W a7)] 103) rfl
    rwa [e4] at this
  have hW0 : Row u32V (w4.alloc (Obj.cells #[.int .u32 (Words.W a0), .int .u32 (Words.W a1), .int .u32 (Words.W a2), .int .u32 (Words.W a3), .int .u32 (Words.W a4), .int .u32 (Words.W a5), .int .u32 (Words.W a6), .int .u32 (Words.W a7)] 103)) w2.heap.size 127 (Sha.sched b 64) := (hR3.grown hG4 (by simp)).alloc _
  have hK0 : Row u32V (w4.alloc (Obj.cells #[.int .u32 (Words.W a0), .int .u32 (Words.W a1), .int .u32 (Words.W a2), .int .u32 (Words.W a3), .int .u32 (Words.W a4), .int .u32 (Words.W a5), .int .u32 (Words.W a6), .int .u32 (Words.W a7)] 103)) (w2.heap.size + 1) 127 Sha.consts := hR4.alloc _
  have hS0 := hS4.alloc (Obj.cells #[.int .u32 (Words.W a0), .int .u32 (Words.W a1), .int .u32 (Words.W a2), .int .u32 (Words.W a3), .int .u32 (Words.W a4), .int .u32 (Words.W a5), .int .u32 (Words.W a6), .int .u32 (Words.W a7)] 103)
  have hZ0 := ((((hZ2.alloc (Obj.cells #[.int .u32 0, .int .u32 0, .int .u32 0, .int .u32 0, .int .u32 0, .int .u32 0, .int .u32 0, .int .u32 0, .int .u32 0, .int .u32 0, .int .u32 0, .int .u32 0, .int .u32 0, .int .u32 0, .int .u32 0, .int .u32 0, .int .u32 0, .int .u32 0, .int .u32 0, .int .u32 0, .int .u32 0, .int .u32 0, .int .u32 0, .int .u32 0, .int .u32 0, .int .u32 0, .int .u32 0, .int .u32 0, .int .u32 0, .int .u32 0, .int .u32 0, .int .u32 0, .int .u32 0, .int .u32 0, .int .u32 0, .int .u32 0, .int .u32 0, .int .u32 0, .int .u32 0, .int .u32 0, .int .u32 0, .int .u32 0, .int .u32 0, .int .u32 0, .int .u32 0, .int .u32 0, .int .u32 0, .int .u32 0, .int .u32 0, .int .u32 0, .int .u32 0, .int .u32 0, .int .u32 0, .int .u32 0, .int .u32 0, .int .u32 0, .int .u32 0, .int .u32 0, .int .u32 0, .int .u32 0, .int .u32 0, .int .u32 0, .int .u32 0, .int .u32 0] 127)).alloc (Obj.cells #[.int .u32 0, .int .u32 0, .int .u32 0, .int .u32 0, .int .u32 0, .int .u32 0, .int .u32 0, .int .u32 0, .int .u32 0, .int .u32 0, .int .u32 0, .int .u32 0, .int .u32 0, .int .u32 0, .int .u32 0, .int .u32 0, .int .u32 0, .int .u32 0, .int .u32 0, .int .u32 0, .int .u32 0, .int .u32 0, .int .u32 0, .int .u32 0, .int .u32 0, .int .u32 0, .int .u32 0, .int .u32 0, .int .u32 0, .int .u32 0, .int .u32 0, .int .u32 0, .int .u32 0, .int .u32 0, .int .u32 0, .int .u32 0, .int .u32 0, .int .u32 0, .int .u32 0, .int .u32 0, .int .u32 0, .int .u32 0, .int .u32 0, .int .u32 0, .int .u32 0, .int .u32 0, .int .u32 0, .int .u32 0, .int .u32 0, .int .u32 0, .int .u32 0, .int .u32 0, .int .u32 0, .int .u32 0, .int .u32 0, .int .u32 0, .int .u32 0, .int .u32 0, .int .u32 0, .int .u32 0, .int .u32 0, .int .u32 0, .int .u32 0, .int .u32 0] 127)).grown hG3 (by simp; omega)).grown hG4 (by simp; omega)).alloc (Obj.cells #[.int .u32 (Words.W a0), .int .u32 (Words.W a1), .int .u32 (Words.W a2), .int .u32 (Words.W a3), .int .u32 (Words.W a4), .int .u32 (Words.W a5), .int .u32 (Words.W a6), .int .u32 (Words.W a7)] 103)
  have hB0 : Below w.heap.size w (w4.alloc (Obj.cells #[.int .u32 (Words.W a0), .int .u32 (Words.W a1), .int .u32 (Words.W a2), .int .u32 (Words.W a3), .int .u32 (Words.W a4), .int .u32 (Words.W a5), .int .u32 (Words.W a6), .int .u32 (Words.W a7)] 103)) := (((((hBw2.alloc hBw2.size _).alloc (by simp; omega) _).grown hG3 (by simp; omega) (by intro k e; cases e; omega)).grown hG4 (by rw [hz3]; simp; omega) (by intro k e; cases e; omega))).alloc (by rw [e4]; omega) _
  generalize w4.alloc (Obj.cells #[.int .u32 (Words.W a0), .int .u32 (Words.W a1), .int .u32 (Words.W a2), .int .u32 (Words.W a3), .int .u32 (Words.W a4), .int .u32 (Words.W a5), .int .u32 (Words.W a6), .int .u32 (Words.W a7)] 103) = wN at hT0 hW0 hK0 hS0 hZ0 hB0 ⊢
  clear hR3 hR4 hG3 hG4 hz3 hz4 e4 hS4 s0 s1 s2 s3 s4 s5 s6 s7 hBw2 hS2 hZ2 hb
  have HZ8 := Lib.hid (show (List.replicate 8 (0 : UInt32)).length = 8 from rfl)
  generalize (List.replicate 8 (0 : UInt32)) = z8 at hZ0 HZ8
  generalize w2.heap.size = b5 at *
  obtain ⟨tb, htb⟩ : ∃ tb, b5 + 1 + 1 = tb := ⟨_, rfl⟩
  rw [htb] at hT0 ⊢
  have g1 : b5 < tb := by omega
  have g2 : b5 + 1 < tb := by omega
  have g3 : w.heap.size + 1 < b5 := by omega
  clear htb hz2
  go_loopw [8] (fun i wr => ∃ k : Nat, k ≤ 64 ∧ i = .int .i64 k ∧ Row u32V wr tb 103 (Sha.rnds (Sha.sched b 64) (Sha.St.of [a0, a1, a2, a3, a4, a5, a6, a7]) k).list ∧ Row u32V wr b5 127 (Sha.sched b 64) ∧ Row u32V wr (b5 + 1) 127 Sha.consts ∧ Row u32V wr w.heap.size 103 [a0, a1, a2, a3, a4, a5, a6, a7] ∧ Row u32V wr (w.heap.size + 1) 103 z8 ∧ Below w.heap.size w wr) (fun i _ => 64 - (intOf i).toNat)
  case atStart => exact ⟨0, by omega, rfl, hT0, hW0, hK0, hS0, hZ0, hB0⟩
  case round =>
    clear hT0 hW0 hK0 hS0 hZ0 hB0
    obtain ⟨k, hk, rfl, hT5, hW5, hK5, hS5, hZ5, hB5⟩ := hrel
    by_cases hlt : k < 64
    · skip
      have hTl : Sha.rnds (Sha.sched b 64) (Sha.St.of [a0, a1, a2, a3, a4, a5, a6, a7]) (k + 1) = Sha.rnd (Sha.rnds (Sha.sched b 64) (Sha.St.of [a0, a1, a2, a3, a4, a5, a6, a7]) k) (Sha.consts[k]?.getD 0) ((Sha.sched b 64)[k]?.getD 0) := rfl
      have HTl := Lib.hid hTl
      clear hTl
      generalize Sha.rnds (Sha.sched b 64) (Sha.St.of [a0, a1, a2, a3, a4, a5, a6, a7]) k = t at hT5 HTl
      have c0 : wr.cell? ⟨tb, 0, none⟩ = some (.int .u32 (Words.W t.a)) := hT5.cell? 0
      have c1 : wr.cell? ⟨tb, 1, none⟩ = some (.int .u32 (Words.W t.b)) := hT5.cell? 1
      have c2 : wr.cell? ⟨tb, 2, none⟩ = some (.int .u32 (Words.W t.c)) := hT5.cell? 2
      have c3 : wr.cell? ⟨tb, 3, none⟩ = some (.int .u32 (Words.W t.d)) := hT5.cell? 3
      have c4 : wr.cell? ⟨tb, 4, none⟩ = some (.int .u32 (Words.W t.e)) := hT5.cell? 4
      have c5 : wr.cell? ⟨tb, 5, none⟩ = some (.int .u32 (Words.W t.f)) := hT5.cell? 5
      have c6 : wr.cell? ⟨tb, 6, none⟩ = some (.int .u32 (Words.W t.g)) := hT5.cell? 6
      have c7 : wr.cell? ⟨tb, 7, none⟩ = some (.int .u32 (Words.W t.h)) := hT5.cell? 7
      have d0 : wr.cell? ⟨b5, k, none⟩ = some (.int .u32 (Words.W ((Sha.sched b 64)[k]?.getD 0))) := hW5.cell 0 k (by rw [Sha.sched_length]; exact hlt)
      have d1 : wr.cell? ⟨b5 + 1, k, none⟩ = some (.int .u32 (Words.W (Sha.consts[k]?.getD 0))) := hK5.cell 0 k hlt
      have q0 : (k : Int) < 64 := by omega
      have r1 := Words.W_xor
      have r2 := Words.W_and
      have r3 := Words.W_not_sub
      have r3a := Words.W_not_mod
      have r3b := Words.W_mod1
      have r4 := Words.W_mod2
      have r5 := Words.W_mod3
      have r6 := Words.W_mod4
      have r7 := Words.W_mod5
      go_wp2_with fail
      go_quiet (fail)
      go_wp2_with fail
      have hT6 := hT5.drewN nq
      have hW6 := hW5.drewN nq
      have hK6 := hK5.drewN nq
      have hS6 := hS5.drewN nq
      have hZ6 := hZ5.drewN nq
      have hB6 := below_drewN hB5 nq
      clear c0 c1 c2 c3 c4 c5 c6 c7 d0 d1
      generalize wr.drewN nq = w6 at hT6 hW6 hK6 hS6 hZ6 hB6 ⊢
      clear hT5 hW5 hK5 hS5 hZ5 hB5
      have c0 : w6.cell? ⟨tb, 0, none⟩ = some (.int .u32 (Words.W t.a)) := hT6.cell? 0
      have c1 : w6.cell? ⟨tb, 1, none⟩ = some (.int .u32 (Words.W t.b)) := hT6.cell? 1
      have c2 : w6.cell? ⟨tb, 2, none⟩ = some (.int .u32 (Words.W t.c)) := hT6.cell? 2
      have c3 : w6.cell? ⟨tb, 3, none⟩ = some (.int .u32 (Words.W t.d)) := hT6.cell? 3
      have c4 : w6.cell? ⟨tb, 4, none⟩ = some (.int .u32 (Words.W t.e)) := hT6.cell? 4
      have c5 : w6.cell? ⟨tb, 5, none⟩ = some (.int .u32 (Words.W t.f)) := hT6.cell? 5
      have c6 : w6.cell? ⟨tb, 6, none⟩ = some (.int .u32 (Words.W t.g)) := hT6.cell? 6
      have c7 : w6.cell? ⟨tb, 7, none⟩ = some (.int .u32 (Words.W t.h)) := hT6.cell? 7
      have d0 : w6.cell? ⟨b5, k, none⟩ = some (.int .u32 (Words.W ((Sha.sched b 64)[k]?.getD 0))) := hW6.cell 0 k (by rw [Sha.sched_length]; exact hlt)
      have d1 : w6.cell? ⟨b5 + 1, k, none⟩ = some (.int .u32 (Words.W (Sha.consts[k]?.getD 0))) := hK6.cell 0 k hlt
      go_quiet ((go_at_call 64; exact Calls.quiet_of (refRotate _ _ (by omega) (by omega) _)))
      go_wp2_with fail
      have hT7 := hT6.drewN nq
      have hW7 := hW6.drewN nq
      have hK7 := hK6.drewN nq
      have hS7 := hS6.drewN nq
      have hZ7 := hZ6.drewN nq
      have hB7 := below_drewN hB6 nq
      clear c0 c1 c2 c3 c4 c5 c6 c7 d0 d1
      generalize w6.drewN nq = w7 at hT7 hW7 hK7 hS7 hZ7 hB7 ⊢
      clear hT6 hW6 hK6 hS6 hZ6 hB6
      have c0 : w7.cell? ⟨tb, 0, none⟩ = some (.int .u32 (Words.W t.a)) := hT7.cell? 0
      have c1 : w7.cell? ⟨tb, 1, none⟩ = some (.int .u32 (Words.W t.b)) := hT7.cell? 1
      have c2 : w7.cell? ⟨tb, 2, none⟩ = some (.int .u32 (Words.W t.c)) := hT7.cell? 2
      have c3 : w7.cell? ⟨tb, 3, none⟩ = some (.int .u32 (Words.W t.d)) := hT7.cell? 3
      have c4 : w7.cell? ⟨tb, 4, none⟩ = some (.int .u32 (Words.W t.e)) := hT7.cell? 4
      have c5 : w7.cell? ⟨tb, 5, none⟩ = some (.int .u32 (Words.W t.f)) := hT7.cell? 5
      have c6 : w7.cell? ⟨tb, 6, none⟩ = some (.int .u32 (Words.W t.g)) := hT7.cell? 6
      have c7 : w7.cell? ⟨tb, 7, none⟩ = some (.int .u32 (Words.W t.h)) := hT7.cell? 7
      have d0 : w7.cell? ⟨b5, k, none⟩ = some (.int .u32 (Words.W ((Sha.sched b 64)[k]?.getD 0))) := hW7.cell 0 k (by rw [Sha.sched_length]; exact hlt)
      have d1 : w7.cell? ⟨b5 + 1, k, none⟩ = some (.int .u32 (Words.W (Sha.consts[k]?.getD 0))) := hK7.cell 0 k hlt
      go_quiet ((go_at_call 64; exact Calls.quiet_of (refRotate _ _ (by omega) (by omega) _)))
      have hT8 := hT7.drewN nq
      have hW8 := hW7.drewN nq
      have hK8 := hK7.drewN nq
      have hS8 := hS7.drewN nq
      have hZ8 := hZ7.drewN nq
      have hB8 := below_drewN hB7 nq
      clear c0 c1 c2 c3 c4 c5 c6 c7 d0 d1
      generalize w7.drewN nq = w8 at hT8 hW8 hK8 hS8 hZ8 hB8 ⊢
      clear hT7 hW7 hK7 hS7 hZ7 hB7
      have c0 : w8.cell? ⟨tb, 0, none⟩ = some (.int .u32 (Words.W t.a)) := hT8.cell? 0
      have c1 : w8.cell? ⟨tb, 1, none⟩ = some (.int .u32 (Words.W t.b)) := hT8.cell? 1
      have c2 : w8.cell? ⟨tb, 2, none⟩ = some (.int .u32 (Words.W t.c)) := hT8.cell? 2
      have c3 : w8.cell? ⟨tb, 3, none⟩ = some (.int .u32 (Words.W t.d)) := hT8.cell? 3
      have c4 : w8.cell? ⟨tb, 4, none⟩ = some (.int .u32 (Words.W t.e)) := hT8.cell? 4
      have c5 : w8.cell? ⟨tb, 5, none⟩ = some (.int .u32 (Words.W t.f)) := hT8.cell? 5
      have c6 : w8.cell? ⟨tb, 6, none⟩ = some (.int .u32 (Words.W t.g)) := hT8.cell? 6
      have c7 : w8.cell? ⟨tb, 7, none⟩ = some (.int .u32 (Words.W t.h)) := hT8.cell? 7
      have f0 := hT8.frozen 0
      have f1 := hT8.frozen 1
      have f2 := hT8.frozen 2
      have f3 := hT8.frozen 3
      have f4 := hT8.frozen 4
      have f5 := hT8.frozen 5
      have f6 := hT8.frozen 6
      have f7 := hT8.frozen 7
      go_wp2
      have hT9 := ((((((((hT8.set 0 (Sha.tx t (Sha.consts[k]?.getD 0) ((Sha.sched b 64)[k]?.getD 0) + Sha.ty t)).set 1 t.a).set 2 t.b).set 3 t.c).set 4 (t.d + Sha.tx t (Sha.consts[k]?.getD 0) ((Sha.sched b 64)[k]?.getD 0))).set 5 t.e).set 6 t.f).set 7 t.g)
      have hW9 := ((((((((hW8.set_other (b' := tb) (by omega) 0 (u32V (Sha.tx t (Sha.consts[k]?.getD 0) ((Sha.sched b 64)[k]?.getD 0) + Sha.ty t))).set_other (b' := tb) (by omega) 1 (u32V t.a)).set_other (b' := tb) (by omega) 2 (u32V t.b)).set_other (b' := tb) (by omega) 3 (u32V t.c)).set_other (b' := tb) (by omega) 4 (u32V (t.d + Sha.tx t (Sha.consts[k]?.getD 0) ((Sha.sched b 64)[k]?.getD 0)))).set_other (b' := tb) (by omega) 5 (u32V t.e)).set_other (b' := tb) (by omega) 6 (u32V t.f)).set_other (b' := tb) (by omega) 7 (u32V t.g))
      have hK9 := ((((((((hK8.set_other (b' := tb) (by omega) 0 (u32V (Sha.tx t (Sha.consts[k]?.getD 0) ((Sha.sched b 64)[k]?.getD 0) + Sha.ty t))).set_other (b' := tb) (by omega) 1 (u32V t.a)).set_other (b' := tb) (by omega) 2 (u32V t.b)).set_other (b' := tb) (by omega) 3 (u32V t.c)).set_other (b' := tb) (by omega) 4 (u32V (t.d + Sha.tx t (Sha.consts[k]?.getD 0) ((Sha.sched b 64)[k]?.getD 0)))).set_other (b' := tb) (by omega) 5 (u32V t.e)).set_other (b' := tb) (by omega) 6 (u32V t.f)).set_other (b' := tb) (by omega) 7 (u32V t.g))
      have hS9 := ((((((((hS8.set_other (b' := tb) (by omega) 0 (u32V (Sha.tx t (Sha.consts[k]?.getD 0) ((Sha.sched b 64)[k]?.getD 0) + Sha.ty t))).set_other (b' := tb) (by omega) 1 (u32V t.a)).set_other (b' := tb) (by omega) 2 (u32V t.b)).set_other (b' := tb) (by omega) 3 (u32V t.c)).set_other (b' := tb) (by omega) 4 (u32V (t.d + Sha.tx t (Sha.consts[k]?.getD 0) ((Sha.sched b 64)[k]?.getD 0)))).set_other (b' := tb) (by omega) 5 (u32V t.e)).set_other (b' := tb) (by omega) 6 (u32V t.f)).set_other (b' := tb) (by omega) 7 (u32V t.g))
      have hZ9 := ((((((((hZ8.set_other (b' := tb) (by omega) 0 (u32V (Sha.tx t (Sha.consts[k]?.getD 0) ((Sha.sched b 64)[k]?.getD 0) + Sha.ty t))).set_other (b' := tb) (by omega) 1 (u32V t.a)).set_other (b' := tb) (by omega) 2 (u32V t.b)).set_other (b' := tb) (by omega) 3 (u32V t.c)).set_other (b' := tb) (by omega) 4 (u32V (t.d + Sha.tx t (Sha.consts[k]?.getD 0) ((Sha.sched b 64)[k]?.getD 0)))).set_other (b' := tb) (by omega) 5 (u32V t.e)).set_other (b' := tb) (by omega) 6 (u32V t.f)).set_other (b' := tb) (by omega) 7 (u32V t.g))
      have hB9 := (Below.setCell (Below.setCell (Below.setCell (Below.setCell (Below.setCell (Below.setCell (Below.setCell (Below.setCell hB8 (p := ⟨tb, 0, none⟩) (by show w.heap.size ≤ tb; omega) (u32V (Sha.tx t (Sha.consts[k]?.getD 0) ((Sha.sched b 64)[k]?.getD 0) + Sha.ty t))) (p := ⟨tb, 1, none⟩) (by show w.heap.size ≤ tb; omega) (u32V t.a)) (p := ⟨tb, 2, none⟩) (by show w.heap.size ≤ tb; omega) (u32V t.b)) (p := ⟨tb, 3, none⟩) (by show w.heap.size ≤ tb; omega) (u32V t.c)) (p := ⟨tb, 4, none⟩) (by show w.heap.size ≤ tb; omega) (u32V (t.d + Sha.tx t (Sha.consts[k]?.getD 0) ((Sha.sched b 64)[k]?.getD 0)))) (p := ⟨tb, 5, none⟩) (by show w.heap.size ≤ tb; omega) (u32V t.e)) (p := ⟨tb, 6, none⟩) (by show w.heap.size ≤ tb; omega) (u32V t.f)) (p := ⟨tb, 7, none⟩) (by show w.heap.size ≤ tb; omega) (u32V t.g))
      go_roundw
      case rel => exact ⟨k + 1, by omega, by go_num, by rw [HTl.out]; exact hT9, hW9, hK9, hS9, hZ9, hB9⟩
      case measure => simp [intOf]; omega
    · obtain rfl : k = 64 := by omega
      clear hlt hk hW5 hK5
      have HTL := Lib.hid (Sha.rnds_list_length (Sha.rnds (Sha.sched b 64) (Sha.St.of [a0, a1, a2, a3, a4, a5, a6, a7]) 64))
      have HE := Lib.hid (show Sha.compress [a0, a1, a2, a3, a4, a5, a6, a7] b = Sha.addTo [a0, a1, a2, a3, a4, a5, a6, a7] (Sha.rnds (Sha.sched b 64) (Sha.St.of [a0, a1, a2, a3, a4, a5, a6, a7]) 64).list 8 from rfl)
      have HC := Lib.hid (addTo_comm a0 a1 a2 a3 a4 a5 a6 a7 (Sha.rnds (Sha.sched b 64) (Sha.St.of [a0, a1, a2, a3, a4, a5, a6, a7]) 64))
      generalize (Sha.rnds (Sha.sched b 64) (Sha.St.of [a0, a1, a2, a3, a4, a5, a6, a7]) 64).list = tl at hT5 HE HC HTL
      go_wp2_with fail
      rw [show ((64 : Nat) : Int) = 64 from rfl]
      go_loopw [13] (fun i wr => ∃ k : Nat, k ≤ 8 ∧ i = .int .i64 k ∧ Row u32V wr tb 103 (Sha.addTo tl [a0, a1, a2, a3, a4, a5, a6, a7] k) ∧ Row u32V wr w.heap.size 103 [a0, a1, a2, a3, a4, a5, a6, a7] ∧ Row u32V wr (w.heap.size + 1) 103 z8 ∧ Below w.heap.size w wr) (fun i _ => 8 - (intOf i).toNat)
      case atStart => exact ⟨0, by omega, rfl, hT5, hS5, hZ5, hB5⟩
      case round =>
        clear hT5 hS5 hZ5 hB5
        obtain ⟨k, hk, rfl, hT, hS, hZ, hB⟩ := hrel
        by_cases hlt : k < 8
        · have HTl := Lib.hid (Sha.addTo_length tl [a0, a1, a2, a3, a4, a5, a6, a7] k)
          have c0 : wr.cell? ⟨tb, k, none⟩ = some (.int .u32 (Words.W ((Sha.addTo tl [a0, a1, a2, a3, a4, a5, a6, a7] k)[k]?.getD 0))) := hT.cell 0 k (by rw [HTl.out, HTL.out]; exact hlt)
          have c1 : wr.cell? ⟨w.heap.size, k, none⟩ = some (.int .u32 (Words.W ([a0, a1, a2, a3, a4, a5, a6, a7][k]?.getD 0))) := hS.cell 0 k hlt
          have q0 : (k : Int) < 8 := by omega
          have r4 := Words.W_add
          have r5 := Words.W_mod2
          have HX := Lib.hid (show (Sha.addTo tl [a0, a1, a2, a3, a4, a5, a6, a7] k).set k (((Sha.addTo tl [a0, a1, a2, a3, a4, a5, a6, a7] k)[k]?.getD 0) + ([a0, a1, a2, a3, a4, a5, a6, a7][k]?.getD 0)) = Sha.addTo tl [a0, a1, a2, a3, a4, a5, a6, a7] (k + 1) from rfl)
          generalize ([a0, a1, a2, a3, a4, a5, a6, a7][k]?.getD 0) = sk at c1 HX
          generalize Sha.addTo tl [a0, a1, a2, a3, a4, a5, a6, a7] k = tk at hT c0 HX
          go_wp2_with fail
          go_still_tail 9, (by kernel_rfl)
          change wpList _ _ _ _ _ wr.drew
          have hT1 := hT.drew
          have hS1 := hS.drew
          have hZ1 := hZ.drew
          have hB1 := hB.drew
          have f0 := hT1.frozen k
          have c2 : wr.drew.cell? ⟨tb, k, none⟩ = some (.int .u32 (Words.W (tk[k]?.getD 0))) := c0
          generalize wr.drew = w4 at hT1 hS1 hZ1 hB1 f0 c2 ⊢
          clear c0 c1
          go_wp2
          have hT2 := hT1.set k ((tk[k]?.getD 0) + sk)
          rw [HX.out] at hT2
          have hS2 := hS1.set_other (b' := tb) (by omega) k (u32V ((tk[k]?.getD 0) + sk))
          have hZ2 := hZ1.set_other (b' := tb) (by omega) k (u32V ((tk[k]?.getD 0) + sk))
          have hB2 : Below w.heap.size w (w4.setCell ⟨tb, k, none⟩ (u32V ((tk[k]?.getD 0) + sk))) := Below.setCell hB1 (p := ⟨tb, k, none⟩) (by show w.heap.size ≤ tb; omega) _
          go_roundw
          case rel => exact ⟨k + 1, by omega, by go_num, hT2, hS2, hZ2, hB2⟩
          case measure => simp [intOf]; omega
        · obtain rfl : k = 8 := by omega
          clear hlt hk hS
          rw [HC.out, ← HE.out] at hT
          have HL := Lib.hid (Sha.compress_length [a0, a1, a2, a3, a4, a5, a6, a7] b)
          generalize hcs : Sha.compress [a0, a1, a2, a3, a4, a5, a6, a7] b = cs at hT HL
          have HCS := Lib.hid hcs
          clear hcs
          obtain ⟨C, hC⟩ : ∃ C, C = (cs.map u32V).toArray := ⟨_, rfl⟩
          have HCC := Lib.hid hC
          clear hC
          have harr : AggT Tryz.prog 103 cs.length := by rw [HL.out]; exact arr103
          go_wp2_with ((with_reducible refine load_agg (ty := 103) (f := u32V) (l := cs) (C := C) harr (.tmp 7) ?_ ?_ tb 0 ?_ ?_ ?_ ?_); rfl; rfl; rfl; exact hT.at; exact HCC.out; (with_reducible refine store_agg (f := u32V) (l := z8) (l' := cs) (t := 103) (C := C) harr (.tmp 4) (.tmp 113) ?_ ?_ (w.heap.size + 1) ?_ ?_ ?_ ?_ ?_ u32V_one ?_); rfl; rfl; rfl; exact HCC.out; rfl; exact hZ; exact HL.out.trans HZ8.out.symm; intro w1 hR3 hG hz1)
          refine bodyPost_ret (v := .agg (cs.map u32V).toArray) (results_agg (l := cs) (f := u32V) rfl _ harr (w.heap.size + 1) 0 rfl hR3.at) rfl ?_
          exact ⟨_, rfl, Lib.hid (by rw [HCS.out]), hB.grown hG hB.size (fun k e => by cases e; omega)⟩
end Go.Proofs.YteglnpanimgelaaGreatDoor
