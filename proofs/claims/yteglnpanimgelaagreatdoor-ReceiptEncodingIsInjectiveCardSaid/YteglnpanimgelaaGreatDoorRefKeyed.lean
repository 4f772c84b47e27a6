/- The reference's Keyed computes Sha.keyed. -/
import Derived.Test.YteglnpanimgelaaGreatDoorRefSum
namespace Go.Proofs.YteglnpanimgelaaGreatDoor
open Go.RowKit Mem
set_option maxRecDepth 100000

set_option maxHeartbeats 1000000 in
theorem refKeyed (w : World) (key : List UInt8) (hk : key.length = 32) (Ck : Array Value) (hC : Hid (Ck = (key.map u8V).toArray)) (v : Value) (b : List UInt8) (hb : Rd u8V w v b) (hlen : b.length ≤ 900000000) :
    Calls Tryz.prog 24 #[.agg Ck, v] w fun e w' => ∃ C, e = .returned (.agg C) ∧ Hid (C = ((Sha.keyed key b).map u8V).toArray) ∧ Below w.heap.size w w' := by
  have HK := Lib.hid hk
  have harrk : AggT Tryz.prog 23 key.length := by rw [HK.out]; exact arr23
  clear hk
  have hK0 : Row u8V (w.alloc (.cells Ck 23)) w.heap.size 23 key := Row.new w _ (by rw [hC.out])
  go_enter Tryz.func24, Tryz.ntmps24
  go_wp2_with ((with_reducible refine load_agg (ty := 23) (f := u8V) (l := key) (C := Ck) harrk (.tmp 2) ?_ ?_ w.heap.size 0 ?_ ?_ ?_ ?_); rfl; rfl; rfl; exact (hK0.alloc _).at; exact hC.out)
  have hZ0 : Row u8V ((w.alloc (.cells Ck 23)).alloc (.cells ((List.replicate 32 0).map u8V).toArray 23)) (w.heap.size + 1) 23 (List.replicate 32 0) := by
    have := Row.new (f := u8V) (t := 23) (l := List.replicate 32 0) (w.alloc (.cells Ck 23)) (.cells ((List.replicate 32 0).map u8V).toArray 23) rfl
    rwa [World.size_alloc] at this
  have hK1 := hK0.alloc (.cells ((List.replicate 32 0).map u8V).toArray 23)
  have hB0 : Below w.heap.size w ((w.alloc (.cells Ck 23)).alloc (.cells ((List.replicate 32 0).map u8V).toArray 23)) := ((Below.refl _ _).alloc (Nat.le_refl _) _).alloc (by simp) _
  have hb0 := (hb.alloc (.cells Ck 23)).alloc (.cells ((List.replicate 32 0).map u8V).toArray 23)
  have h54 : ((54 : UInt8).toNat : Int) = 54 := rfl
  have h92 : ((92 : UInt8).toNat : Int) = 92 := rfl
  have M1 := refMasked ((w.alloc (.cells Ck 23)).alloc (.cells ((List.replicate 32 0).map u8V).toArray 23)) key HK.out 54 Ck hC
  rw [h54] at M1
  refine M1.mono ?_
  clear M1
  rintro e w1 ⟨v1, rfl, hO1, hB1⟩
  have hZ1 := hZ0.below hB1 hZ0.lt
  have hK2 := hK1.below hB1 hK1.lt
  have hBw1 := hB0.trans (hB1.mono hB0.size)
  have hb1 := hb0.below hB1
  have hsz : w.heap.size + 2 ≤ w1.heap.size := by have := hB1.size; simp at this; omega
  have hO1' := hO1.mono (b' := w.heap.size + 2) (by simp)
  clear hZ0 hK0 hK1 hB0 hb0 hB1 hO1 hb
  obtain ⟨p1, c1, rfl⟩ := hO1'.slice
  have HML := Lib.hid (show (Sha.masked key 54).length = 64 from Sha.maskN_length _ _ _)
  have HML2 := Lib.hid (show (Sha.masked key 92).length = 64 from Sha.maskN_length _ _ _)
  go_wp2_with (at_builtin; (with_reducible refine append_rd eltB (.tmp 10) (.tmp 11) ?_ ?_ u8V_one ?_ hO1' b _ ?_ hb1 ?_ ?_ ?_ (Sha.masked key 54 ++ b) ?_ ?_); rfl; rfl; rfl; rfl; (rw [HML.out]; omega); (rw [HML.out]; omega); exact hsz; rfl; intro p2 c2 w2 hO2 hB2 hG2)
  rw [List.length_append] at hO2
  have hZ2 := hZ1.below hB2 (by omega)
  have hK3 := hK2.below hB2 (by omega)
  have hBw2 := hBw1.trans (hB2.mono (by omega))
  have hsz2 : w.heap.size + 2 ≤ w2.heap.size := by have := hB2.size; omega
  refine (refSum w2 _ (Sha.masked key 54 ++ b) hO2.rd (by rw [List.length_append, HML.out]; omega)).mono ?_
  clear hO1' hb1 hZ1 hK2 hBw1 hsz hB2 hG2 hO2
  rintro e w3 ⟨C3, rfl, HC3, hB3⟩
  have hZ3 := hZ2.below hB3 hZ2.lt
  have hK4 := hK3.below hB3 hK3.lt
  have hBw3 := hBw2.trans (hB3.mono hBw2.size)
  have hsz3 : w.heap.size + 2 ≤ w3.heap.size := by have := hB3.size; omega
  clear hZ2 hK3 hBw2 hsz2 hB3
  have HIL := Lib.hid (show (Sha.sum (Sha.masked key 54 ++ b)).length = 32 by simp [Sha.sum, Sha.out])
  have HE := Lib.hid (show Sha.keyed key b = Sha.sum (Sha.masked key 92 ++ Sha.sum (Sha.masked key 54 ++ b)) from rfl)
  generalize Sha.sum (Sha.masked key 54 ++ b) = inn at HC3 HIL HE
  have harri : AggT Tryz.prog 23 inn.length := by rw [HIL.out]; exact arr23
  go_wp2_with (first
    | ((with_reducible refine store_agg (f := u8V) (l := List.replicate 32 0) (l' := inn) (t := 23) (C := C3) harri (.tmp 6) (.tmp 13) ?_ ?_ w3.heap.size ?_ ?_ ?_ ?_ ?_ u8V_one ?_); rfl; rfl; rfl; exact HC3.out; rfl; exact (zeros32 w3); exact HIL.out; intro w4 hI4 hG4 hz4; have hK5 := (hK4.alloc (Obj.cells ((List.replicate 32 0).map u8V).toArray 23)).grown hG4 (by simp; omega))
    | ((with_reducible refine load_agg (ty := 23) (f := u8V) (l := key) (C := Ck) harrk (.tmp 2) ?_ ?_ w.heap.size 0 ?_ ?_ ?_ ?_); rfl; rfl; rfl; exact hK5.at; exact hC.out))
  have hZ4 := (hZ3.alloc (Obj.cells ((List.replicate 32 0).map u8V).toArray 23)).grown hG4 (by simp; omega)
  have hB4 : Below w.heap.size w w4 := (hBw3.alloc hBw3.size _).grown hG4 (by simp; omega) (by intro k e; cases e; omega)
  have hsz4 : w3.heap.size < w4.heap.size := hI4.lt
  clear hG4 hz4 hZ3 hK4 hBw3 hK5
  have M1 := refMasked w4 key HK.out 92 Ck hC
  rw [h92] at M1
  refine M1.mono ?_
  clear M1
  rintro e w5 ⟨v5, rfl, hO5, hB5⟩
  have hZ5 := hZ4.below hB5 (by omega)
  have hI5 := hI4.below hB5 hsz4
  have hBw5 := hB4.trans (hB5.mono hB4.size)
  have hsz5 : w4.heap.size ≤ w5.heap.size := hB5.size
  obtain ⟨p5, c5, rfl⟩ := hO5.slice
  clear hZ4 hI4 hB4 hB5
  go_wp2_with ((with_reducible refine load_agg (ty := 23) (f := u8V) (l := inn) (C := C3) harri (.tmp 6) ?_ ?_ w3.heap.size 0 ?_ ?_ ?_ ?_); rfl; rfl; rfl; exact hI5.at; exact HC3.out)
  refine (refBytes w5 inn HIL.out C3 HC3).mono ?_
  rintro e w6 ⟨v6, rfl, hO6, hB6⟩
  have hZ6 := hZ5.below hB6 (by omega)
  have hO7 := hO5.below' hB6
  have hBw6 := hBw5.trans (hB6.mono hBw5.size)
  have hsz6 : w5.heap.size ≤ w6.heap.size := hB6.size
  clear hZ5 hI5 hBw5 hB6 hO5
  go_wp2_with (at_builtin; (with_reducible refine append_rd eltB (.tmp 16) (.tmp 18) ?_ ?_ u8V_one ?_ hO7 inn _ ?_ hO6.rd ?_ ?_ ?_ (Sha.masked key 92 ++ inn) ?_ ?_); rfl; rfl; rfl; rfl; (rw [HML2.out, HIL.out]; omega); (rw [HML2.out, HIL.out]; omega); omega; rfl; intro p7 c7 w7 hO8 hB7 hG7)
  rw [List.length_append] at hO8
  have hZ7 := hZ6.below hB7 (by omega)
  have hBw7 := hBw6.trans (hB7.mono (by omega))
  have hsz7 : w6.heap.size ≤ w7.heap.size := hB7.size
  refine (refSum w7 _ (Sha.masked key 92 ++ inn) hO8.rd (by rw [List.length_append, HML2.out, HIL.out]; omega)).mono ?_
  clear hO7 hO6 hZ6 hBw6 hB7 hG7 hO8
  rintro e w8 ⟨C8, rfl, HC8, hB8⟩
  rw [← HE.out] at HC8
  have hZ8 := hZ7.below hB8 hZ7.lt
  have hBw8 := hBw7.trans (hB8.mono hBw7.size)
  clear hZ7 hBw7 hB8
  have HKL := Lib.hid (show (Sha.keyed key b).length = 32 by simp [Sha.keyed, Sha.sum, Sha.out])
  have harr : AggT Tryz.prog 23 (Sha.keyed key b).length := by rw [HKL.out]; exact arr23
  go_wp2_with ((with_reducible refine store_agg (f := u8V) (l := List.replicate 32 0) (l' := Sha.keyed key b) (t := 23) (C := C8) harr (.tmp 4) (.tmp 20) ?_ ?_ (w.heap.size + 1) ?_ ?_ ?_ ?_ ?_ u8V_one ?_); rfl; rfl; rfl; exact HC8.out; rfl; exact hZ8; exact HKL.out; intro w9 hR9 hG9 hz9)
  refine bodyPost_ret (v := .agg ((Sha.keyed key b).map u8V).toArray) (results_agg (l := Sha.keyed key b) (f := u8V) rfl _ harr (w.heap.size + 1) 0 rfl hR9.at) rfl ?_
  exact ⟨_, rfl, Lib.hid rfl, hBw8.grown hG9 hBw8.size (fun k e => by cases e; omega)⟩
end Go.Proofs.YteglnpanimgelaaGreatDoor
