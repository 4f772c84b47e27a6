/- The reference's Body. -/
import Derived.WalkKit
import Derived.Outline
import Derived.Lib.Hide
import Derived.OwnWalk
import Derived.LoopTactic
import Derived.WalkSmall
import Derived.Test.YteglnpanimgelaaGreatDoorRefNumber
import Derived.Test.YteglnpanimgelaaGreatDoorRefPad
import Derived.Test.YteglnpanimgelaaGreatDoorIssue
namespace Go.Proofs.YteglnpanimgelaaGreatDoor
open Go.RowKit Mem
set_option maxRecDepth 100000

set_option maxHeartbeats 8000000 in
theorem refBody (w : World) (n v s : Int) (m r c : List UInt8) (hm : m.length = 32) (hr : r.length = 32) (C0 : Array Value) (HC : Hid (C0 = ((recL n v s m r c).map cV).toArray)) :
    Calls Tryz.prog 41 #[.agg C0] w fun e w' => ∃ v', e = .returned v' ∧ Mem.Own u8V w' w.heap.size 5 v' (Sha.msg n v s m r) ∧ Below w.heap.size w w' := by
  have c0 : C0[0]? = some (.int .i64 n) := by rw [HC.out]; rfl
  have hR0 : Row cV (w.alloc (.cells C0 40)) w.heap.size 40 (recL n v s m r c) := Row.new w _ (by rw [HC.out])
  have hs0 : (w.alloc (.cells C0 40)).heap.size = w.heap.size + 1 := World.size_alloc _ _
  have hb0 : Below w.heap.size w (w.alloc (.cells C0 40)) := (Below.refl _ w).alloc (Nat.le_refl _) _
  have d0 : (w.alloc (.cells C0 40)).cell? ⟨w.heap.size, 0, none⟩ = some (.int .i64 n) := by rw [hR0.cell?]; rfl
  go_enter Tryz.func41, Tryz.ntmps41
  go_wp2_with fail
  generalize World.alloc w (.cells C0 40) = w0 at *
  refine (refNumber w0 n 8 (by omega)).mono ?_
  rintro e w1 ⟨v1, rfl, hO1, hB1⟩
  have hR1 := hR0.below hB1 hR0.lt
  have hb1 := hb0.trans (hB1.mono (B' := w.heap.size) (by omega))
  have hz1 := hB1.size
  have d1 : w1.cell? ⟨w.heap.size, 1, none⟩ = some (.int .i64 v) := by rw [hR1.cell?]; rfl
  go_wp2_with fail
  refine (refNumber w1 v 8 (by omega)).mono ?_
  rintro e w2 ⟨v2, rfl, hO2, hB2⟩
  have hO12 := hO1.below' hB2
  have hR2 := hR1.below hB2 hR1.lt
  have hb2 := hb1.trans (hB2.mono (B' := w.heap.size) (by omega))
  have hz2 := hB2.size
  have HA2 := Lib.hid (show (Sha.le (Sha.u64 n) 8 ++ Sha.le (Sha.u64 v) 8).length = 16 by simp [Sha.le_length])
  have hL1 := Sha.le_length (Sha.u64 n) 8
  have hL2 := Sha.le_length (Sha.u64 v) 8
  have hL3 := Sha.le_length (Sha.u64 s) 8
  have hL4 : ∀ k, (Sha.le (Sha.u64 s) k).length = k := fun k => Sha.le_length _ k
  have HMS := Lib.hid (show Sha.msg n v s m r = Sha.le (Sha.u64 n) 8 ++ Sha.le (Sha.u64 v) 8 ++ Sha.le (Sha.u64 s) 8 ++ m ++ r from rfl)
  generalize Sha.le (Sha.u64 n) 8 = l1 at hO12 HA2 hL1 HMS
  generalize Sha.le (Sha.u64 v) 8 = l2 at hO2 HA2 hL2 HMS
  have hrn := fun W => refNumber W s 8 (by omega)
  have HRN := Lib.hid hrn
  clear hrn hL4
  generalize Sha.le (Sha.u64 s) 8 = l3 at hL3 HMS HRN
  obtain ⟨Cm, HCm⟩ : ∃ C, Hid (C = (m.map u8V).toArray) := ⟨_, Lib.hid rfl⟩
  obtain ⟨Cr, HCr⟩ : ∃ C, Hid (C = (r.map u8V).toArray) := ⟨_, Lib.hid rfl⟩
  have harm : AggT Tryz.prog 23 m.length := by rw [hm]; exact arr23
  have harr : AggT Tryz.prog 23 r.length := by rw [hr]; exact arr23
  have HAT := Lib.hid (fun W (h : Row cV W w.heap.size 40 (recL n v s m r c)) => (⟨At.mid (pre := [.inl n, .inl v, .inl s]) (post := r.map .inr ++ c.map .inr) (by simpa [recL] using h.at) 3 rfl, At.mid (pre := [.inl n, .inl v, .inl s] ++ m.map .inr) (post := c.map .inr) (by simpa [recL] using h.at) 35 (by simp [hm])⟩ : At u8V W w.heap.size 3 m ∧ At u8V W w.heap.size 35 r))
  go_wp2_with (at_builtin; (with_reducible refine append_rd elt36n (.tmp 7) (.tmp 10) ?_ ?_ u8V_one ?_ hO12 l2 _ ?_ hO2.rd ?_ ?_ ?_ (l1 ++ l2) rfl ?_); rfl; rfl; rfl; rfl; omega; omega; omega; intro p3 c3 w3 hO3 hB3 hG3; have hR3 := hR2.below hB3 (by omega); have d3 : w3.cell? ⟨w.heap.size, 2, none⟩ = some (.int .i64 s) := (by rw [hR3.cell?]; rfl))
  rw [HA2.out] at hO3
  have hz3 := hB3.size
  have hb3 := hb2.trans (hB3.mono (B' := w.heap.size) (by omega))
  refine (HRN.out w3).mono ?_
  rintro e w4 ⟨v4, rfl, hO4, hB4⟩
  have hO34 := hO3.below' hB4
  have hR4 := hR3.below hB4 hR3.lt
  have hb4 := hb3.trans (hB4.mono (B' := w.heap.size) (by omega))
  have hz4 := hB4.size
  have hA4 : (l1 ++ l2 ++ l3).length = 24 := by rw [List.length_append, HA2.out, hL3]
  have HA4 := Lib.hid hA4
  have hA2 := HA2.out
  clear hA4
  go_wp2_with (first
    | (at_builtin; (with_reducible refine append_rd elt36n (.tmp 12) (.tmp 15) ?_ ?_ u8V_one ?_ hO34 l3 _ ?_ hO4.rd ?_ ?_ ?_ (l1 ++ l2 ++ l3) rfl ?_); rfl; rfl; rfl; rfl; omega; omega; omega; intro p5 c5 w5 hO5 hB5 hG5; have hR5 := hR4.below hB5 (by omega); have hat5 := (HAT.out w5 hR5).1)
    | ((with_reducible refine load_agg (f := u8V) (l := m) harm (.tmp 18) ?_ ?_ w.heap.size 3 ?_ hat5 HCm.out ?_); rfl; rfl; rfl))
  rw [HA4.out] at hO5
  have hz5 := hB5.size
  have hb5 := hb4.trans (hB5.mono (B' := w.heap.size) (by omega))
  refine (refBytes w5 m hm Cm HCm).mono ?_
  rintro e w6 ⟨v6, rfl, hO6, hB6⟩
  have hO56 := hO5.below' hB6
  have hR6 := hR5.below hB6 hR5.lt
  have hb6 := hb5.trans (hB6.mono (B' := w.heap.size) (by omega))
  have hz6 := hB6.size
  have HA6 := Lib.hid (show (l1 ++ l2 ++ l3 ++ m).length = 56 by rw [List.length_append, HA4.out, hm])
  have hA4 := HA4.out
  go_wp2_with (first
    | (at_builtin; (with_reducible refine append_rd elt36n (.tmp 17) (.tmp 20) ?_ ?_ u8V_one ?_ hO56 m _ ?_ hO6.rd ?_ ?_ ?_ (l1 ++ l2 ++ l3 ++ m) rfl ?_); rfl; rfl; rfl; rfl; omega; omega; omega; intro p7 c7 w7 hO7 hB7 hG7; have hR7 := hR6.below hB7 (by omega); have hat7 := (HAT.out w7 hR7).2)
    | ((with_reducible refine load_agg (f := u8V) (l := r) harr (.tmp 23) ?_ ?_ w.heap.size 35 ?_ hat7 HCr.out ?_); rfl; rfl; rfl))
  rw [HA6.out] at hO7
  have hz7 := hB7.size
  have hb7 := hb6.trans (hB7.mono (B' := w.heap.size) (by omega))
  refine (refBytes w7 r hr Cr HCr).mono ?_
  rintro e w8 ⟨v8, rfl, hO8, hB8⟩
  have hO78 := hO7.below' hB8
  have hb8 := hb7.trans (hB8.mono (B' := w.heap.size) (by omega))
  have hz8 := hB8.size
  have hA6 := HA6.out
  go_wp2_with (at_builtin; (with_reducible refine append_rd elt36n (.tmp 22) (.tmp 25) ?_ ?_ u8V_one ?_ hO78 r _ ?_ hO8.rd ?_ ?_ ?_ (l1 ++ l2 ++ l3 ++ m ++ r) rfl ?_); rfl; rfl; rfl; rfl; omega; omega; omega; intro p9 c9 w9 hO9 hB9 hG9)
  go_ret
  refine ⟨_, rfl, ?_, hb8.trans (hB9.mono (B' := w.heap.size) (by omega))⟩
  rw [HMS.out]
  have hA8 : (l1 ++ l2 ++ l3 ++ m ++ r).length = 88 := by rw [List.length_append, hA6, hr]
  rw [hA8] at hO9
  exact hO9.mono (by omega)
end Go.Proofs.YteglnpanimgelaaGreatDoor
