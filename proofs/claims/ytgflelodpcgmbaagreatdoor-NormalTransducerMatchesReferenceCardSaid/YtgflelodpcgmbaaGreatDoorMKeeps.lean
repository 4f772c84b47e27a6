/- normal.keeps for a question of two programs of one statement that append the same field. -/
import Derived.Test.YtgflelodpcgmbaaGreatDoorMRead
import Derived.Test.YtgflelodpcgmbaaGreatDoorMConv
import Derived.Test.YtgflelodpcgmbaaGreatDoorMNWrite
import Derived.Deep.DeepCutAuto
namespace Go.Proofs.YtgflelodpcgmbaaGreatDoor
open Go.RowKit Mem
set_option maxRecDepth 100000

/-- the output of a normalizer on a message -/
def NZ.outp (N : NZ) (bs : List UInt8) : List UInt8 := (N.run ⟨0, false, []⟩ bs).out

set_option maxHeartbeats 8000000 in
theorem nKeeps (w : World) (N : NZ) (pc pr pe pu p1 p2 p3 p4 p5 : Option Addr) (kc kr ke ku n1 k1 n2 k2 n3 k3 n4 k4 n5 k5 : Nat) (most : Int) (nm : ByteArray) (HN : Hid (NameOK nm)) (bs : List UInt8)
    (hv : NzAt w (.agg #[.slice pc N.cls.length kc, .slice pr N.rows.length kr, .slice pe N.ends.length ke]) N) (hA : FP w (.agg #[.slice p1 n1 k1, .slice p2 n2 k2]) nm) (hA' : FP w (.agg #[.slice p3 n3 k3, .slice p4 n4 k4]) nm)
    (hu : Rd u8V w (.slice pu bs.length ku) bs) (hbs : bs.length ≤ 4096) (hcov : N.Cov) :
    Calls Tryz.prog 55 #[.agg #[.slice pc N.cls.length kc, .slice pr N.rows.length kr, .slice pe N.ends.length ke], .agg #[.slice p1 n1 k1, .slice p2 n2 k2, .slice p3 n3 k3, .slice p4 n4 k4, .slice p5 n5 k5, .int .i64 most], .slice pu bs.length ku] w fun e w' => e = .returned (.bool (N.acc bs && (bs == N.outp bs))) ∧ Below w.heap.size w w' := by
  have HV := Lib.hid hv
  have HU := Lib.hid hu
  have HA := Lib.hid hA
  have HA' := Lib.hid hA'
  clear hv hu hA hA'
  go_enter Tryz.func55, Tryz.ntmps55
  go_upto_region 1 with (fail)
  obtain ⟨W, hW, hB, hs, g0, g1⟩ : ∃ W, ((w.alloc (.cells #[.slice pc N.cls.length kc, .slice pr N.rows.length kr, .slice pe N.ends.length ke] 26)).alloc (.cells #[.slice p1 n1 k1, .slice p2 n2 k2, .slice p3 n3 k3, .slice p4 n4 k4, .slice p5 n5 k5, .int .i64 most] 65)) = W ∧ Below w.heap.size w W ∧ W.heap.size = w.heap.size + 2 ∧ W.heap[w.heap.size]? = some (.cells #[.slice pc N.cls.length kc, .slice pr N.rows.length kr, .slice pe N.ends.length ke] 26 (0, 0)) ∧ W.heap[w.heap.size + 1]? = some (.cells #[.slice p1 n1 k1, .slice p2 n2 k2, .slice p3 n3 k3, .slice p4 n4 k4, .slice p5 n5 k5, .int .i64 most] 65 (0, 0)) := by
    refine ⟨_, rfl, below_al (below_al (Below.refl _ _) (Nat.le_refl _) _) (Nat.le_refl _) _, by simp, ?_, ?_⟩
    all_goals repeat (first | (refine heap_new' _ _ _ ?_; (simp; done)) | (refine (Below.heap_alloc _ _ _ ?_).trans ?_; · (simp <;> omega)))
  rw [hW]
  have HC : Hid (∀ X : World, Below W.heap.size W X → X.cell? ⟨w.heap.size, 0, none⟩ = some (.slice pc N.cls.length kc) ∧ X.cell? ⟨w.heap.size, 1, none⟩ = some (.slice pr N.rows.length kr) ∧ X.cell? ⟨w.heap.size, 2, none⟩ = some (.slice pe N.ends.length ke) ∧ X.cell? ⟨w.heap.size + 1, 0, none⟩ = some (.slice p1 n1 k1) ∧ X.cell? ⟨w.heap.size + 1, 1, none⟩ = some (.slice p2 n2 k2) ∧ X.cell? ⟨w.heap.size + 1, 2, none⟩ = some (.slice p3 n3 k3) ∧ X.cell? ⟨w.heap.size + 1, 3, none⟩ = some (.slice p4 n4 k4)) := Lib.hid fun X hX => by
    have h1 := (hX.block w.heap.size (by omega)).trans g0
    have h2 := (hX.block (w.heap.size + 1) (by omega)).trans g1
    refine ⟨?_, ?_, ?_, ?_, ?_, ?_, ?_⟩ <;> (unfold World.cell?; first | (rw [h1]; rfl) | (rw [h2]; rfl))
  clear hW g0 g1
  obtain ⟨c0, c1, c2, q0, q1, q2, q3⟩ := HC.out W (Below.refl _ _)
  go_wp2_with fail
  refine (iRun1 W _ nm bs _ HN (HA.out.below hB) (HU.out.below hB) hbs).mono ?_
  rintro e W1 ⟨r1, rfl, hr1, hB1⟩
  obtain ⟨g1, u1, x1, rfl, _⟩ := id hr1
  clear c0 c1 c2 q0 q1 q2 q3
  -- first record's box
  obtain ⟨r7, hBa, hs1, m0, m1, m2⟩ : RecAt (W1.alloc (.cells #[.bool true, .int .i64 0, .slice (some ⟨g1, 0, none⟩) 1 u1] 160)) (.agg #[.bool true, .int .i64 0, .slice (some ⟨g1, 0, none⟩) 1 u1]) nm bs ∧ Below W.heap.size W (W1.alloc (.cells #[.bool true, .int .i64 0, .slice (some ⟨g1, 0, none⟩) 1 u1] 160)) ∧ W1.heap.size < (W1.alloc (.cells #[.bool true, .int .i64 0, .slice (some ⟨g1, 0, none⟩) 1 u1] 160)).heap.size ∧
      (W1.alloc (.cells #[.bool true, .int .i64 0, .slice (some ⟨g1, 0, none⟩) 1 u1] 160)).cell? ⟨W1.heap.size, 0, none⟩ = some (.bool true) ∧ (W1.alloc (.cells #[.bool true, .int .i64 0, .slice (some ⟨g1, 0, none⟩) 1 u1] 160)).cell? ⟨W1.heap.size, 1, none⟩ = some (.int .i64 0) ∧ (W1.alloc (.cells #[.bool true, .int .i64 0, .slice (some ⟨g1, 0, none⟩) 1 u1] 160)).cell? ⟨W1.heap.size, 2, none⟩ = some (.slice (some ⟨g1, 0, none⟩) 1 u1) := by
    refine ⟨hr1.below (below_al (Below.refl _ _) (Nat.le_refl _) _), below_al hB1 (Nat.le_refl _) _, by simp, ?_, ?_, ?_⟩ <;> (unfold World.cell?; rw [World.alloc_heap_new]; rfl)
  obtain ⟨c0, c1, c2, q0, q1, q2, q3⟩ := HC.out _ hBa
  have hB07 := hB.trans (hBa.mono hB.size)
  have hb7 : w.heap.size + 2 ≤ W1.heap.size := by have := hB1.size; omega
  go_upto_region 2 with (fail)
  generalize (W1.alloc (.cells #[.bool true, .int .i64 0, .slice (some ⟨g1, 0, none⟩) 1 u1] 160)) = W2 at *
  generalize W1.heap.size = n7 at *
  have HM7 : Hid (∀ X : World, Below W2.heap.size W2 X → X.cell? ⟨n7, 0, none⟩ = some (.bool true) ∧ X.cell? ⟨n7, 1, none⟩ = some (.int .i64 0) ∧ X.cell? ⟨n7, 2, none⟩ = some (.slice (some ⟨g1, 0, none⟩) 1 u1)) := Lib.hid fun X hX => ⟨(hX.cell (p := ⟨n7, 0, none⟩) hs1).trans m0, (hX.cell (p := ⟨n7, 1, none⟩) hs1).trans m1, (hX.cell (p := ⟨n7, 2, none⟩) hs1).trans m2⟩
  clear m0 m1 m2 hr1 hB1
  go_wp2_with fail
  refine (iRun1 W2 _ nm bs _ HN (HA'.out.below hB07) (HU.out.below hB07) hbs).mono ?_
  rintro e W3 ⟨r2, rfl, hr2, hB3⟩
  obtain ⟨g2, u2, x2, rfl, _⟩ := id hr2
  clear c0 c1 c2 q0 q1 q2 q3
  obtain ⟨r9, hBb, hs2, m0, m1, m2⟩ : RecAt (W3.alloc (.cells #[.bool true, .int .i64 0, .slice (some ⟨g2, 0, none⟩) 1 u2] 160)) (.agg #[.bool true, .int .i64 0, .slice (some ⟨g2, 0, none⟩) 1 u2]) nm bs ∧ Below W2.heap.size W2 (W3.alloc (.cells #[.bool true, .int .i64 0, .slice (some ⟨g2, 0, none⟩) 1 u2] 160)) ∧ W3.heap.size < (W3.alloc (.cells #[.bool true, .int .i64 0, .slice (some ⟨g2, 0, none⟩) 1 u2] 160)).heap.size ∧
      (W3.alloc (.cells #[.bool true, .int .i64 0, .slice (some ⟨g2, 0, none⟩) 1 u2] 160)).cell? ⟨W3.heap.size, 0, none⟩ = some (.bool true) ∧ (W3.alloc (.cells #[.bool true, .int .i64 0, .slice (some ⟨g2, 0, none⟩) 1 u2] 160)).cell? ⟨W3.heap.size, 1, none⟩ = some (.int .i64 0) ∧ (W3.alloc (.cells #[.bool true, .int .i64 0, .slice (some ⟨g2, 0, none⟩) 1 u2] 160)).cell? ⟨W3.heap.size, 2, none⟩ = some (.slice (some ⟨g2, 0, none⟩) 1 u2) := by
    refine ⟨hr2.below (below_al (Below.refl _ _) (Nat.le_refl _) _), below_al hB3 (Nat.le_refl _) _, by simp, ?_, ?_, ?_⟩ <;> (unfold World.cell?; rw [World.alloc_heap_new]; rfl)
  have hBc : Below W.heap.size W _ := hBa.trans (hBb.mono hBa.size)
  obtain ⟨c0, c1, c2, q0, q1, q2, q3⟩ := HC.out _ hBc
  have hB09 := hB.trans (hBc.mono hB.size)
  go_upto_region 3 with (fail)
  have r7' := r7.below hBb
  have HM7' : Hid (∀ X : World, Below W3.heap.size (W3.alloc (.cells #[.bool true, .int .i64 0, .slice (some ⟨g2, 0, none⟩) 1 u2] 160)) X → X.cell? ⟨n7, 0, none⟩ = some (.bool true) ∧ X.cell? ⟨n7, 1, none⟩ = some (.int .i64 0) ∧ X.cell? ⟨n7, 2, none⟩ = some (.slice (some ⟨g1, 0, none⟩) 1 u1)) := Lib.hid fun X hX => HM7.out X (hBb.trans (hX.mono hB3.size))
  have hz9 : W2.heap.size ≤ W3.heap.size := hB3.size
  generalize (W3.alloc (.cells #[.bool true, .int .i64 0, .slice (some ⟨g2, 0, none⟩) 1 u2] 160)) = W4 at *
  generalize W3.heap.size = n9 at *
  have HM9 : Hid (∀ X : World, Below W4.heap.size W4 X → X.cell? ⟨n9, 0, none⟩ = some (.bool true) ∧ X.cell? ⟨n9, 1, none⟩ = some (.int .i64 0) ∧ X.cell? ⟨n9, 2, none⟩ = some (.slice (some ⟨g2, 0, none⟩) 1 u2)) := Lib.hid fun X hX => ⟨(hX.cell (p := ⟨n9, 0, none⟩) hs2).trans m0, (hX.cell (p := ⟨n9, 1, none⟩) hs2).trans m1, (hX.cell (p := ⟨n9, 2, none⟩) hs2).trans m2⟩
  clear m0 m1 m2 hr2 hB3 r7 HM7
  go_wp2_with fail
  refine (nRun W4 N pc pr pe pu kc kr ke ku bs (HV.out.below hB09) (HU.out.below hB09) (by omega) hcov).mono ?_
  clear c0 c1 c2 q0 q1 q2 q3
  have hBe : ∀ X, Below W4.heap.size W4 X → Below w.heap.size w X := fun X hX => hB09.trans (hX.mono hB09.size)
  rintro e W5 ⟨hB5, ⟨hacc, rfl⟩ | ⟨hacc, lo, hlo, po, ko, rfl, hO⟩⟩
  · obtain ⟨a0, a1, a2⟩ := HM7'.out W5 (hB5.mono (by omega))
    obtain ⟨b0, b1, b2⟩ := HM9.out W5 hB5
    go_wp2_with fail
    refine (alike1 W5 nm _ _ bs bs (r7'.below hB5) (r9.below hB5)).mono ?_
    rintro e W6 ⟨rfl, hB6⟩
    have hx : (bs == bs) = true := by simp
    rw [hx]
    have hBf := hBe _ (hB5.trans (hB6.mono hB5.size))
    have hf : (N.acc bs && (bs == N.outp bs)) = false := by rw [hacc]; rfl
    have HF := Lib.hid hf
    clear hf hacc a0 a1 a2 b0 b1 b2
    go_wp2
    go_ret
    exact ⟨by rw [HF.out]; rfl, hBf⟩
  · obtain ⟨a0, a1, a2⟩ := HM7'.out W5 (hB5.mono (by omega))
    obtain ⟨b0, b1, b2⟩ := HM9.out W5 hB5
    go_wp2_with fail
    refine (alike1 W5 nm _ _ bs bs (r7'.below hB5) (r9.below hB5)).mono ?_
    rintro e W6 ⟨rfl, hB6⟩
    have hx : (bs == bs) = true := by simp
    rw [hx]
    have hBf := hBe _ (hB5.trans (hB6.mono hB5.size))
    have hf : (N.acc bs && (bs == N.outp bs)) = (bs == lo) := by rw [hacc, hlo.out]; rfl
    have HF := Lib.hid hf
    clear hf hacc a0 a1 a2 b0 b1 b2
    go_wp2_with fail
    refine (bytesEqual W6 _ _ bs lo (HU.out.below hBf) ((hO.rd).below hB6)).mono ?_
    rintro e W7 ⟨rfl, rfl⟩
    go_wp2
    go_ret
    exact ⟨by rw [HF.out]; rfl, hBf⟩
end Go.Proofs.YtgflelodpcgmbaaGreatDoor
