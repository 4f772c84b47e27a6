/- digest.Keyed computes Sha.keyed. -/
import Derived.Test.YteglnpanimgelaaGreatDoorHash
namespace Go.Proofs.YteglnpanimgelaaGreatDoor
open Go.RowKit Mem
set_option maxRecDepth 100000

theorem zeros64 (w : World) (key : List UInt8) (m : UInt8) : Row u8V (w.alloc (Obj.cells #[.int .u8 0, .int .u8 0, .int .u8 0, .int .u8 0, .int .u8 0, .int .u8 0, .int .u8 0, .int .u8 0, .int .u8 0, .int .u8 0, .int .u8 0, .int .u8 0, .int .u8 0, .int .u8 0, .int .u8 0, .int .u8 0, .int .u8 0, .int .u8 0, .int .u8 0, .int .u8 0, .int .u8 0, .int .u8 0, .int .u8 0, .int .u8 0, .int .u8 0, .int .u8 0, .int .u8 0, .int .u8 0, .int .u8 0, .int .u8 0, .int .u8 0, .int .u8 0, .int .u8 0, .int .u8 0, .int .u8 0, .int .u8 0, .int .u8 0, .int .u8 0, .int .u8 0, .int .u8 0, .int .u8 0, .int .u8 0, .int .u8 0, .int .u8 0, .int .u8 0, .int .u8 0, .int .u8 0, .int .u8 0, .int .u8 0, .int .u8 0, .int .u8 0, .int .u8 0, .int .u8 0, .int .u8 0, .int .u8 0, .int .u8 0, .int .u8 0, .int .u8 0, .int .u8 0, .int .u8 0, .int .u8 0, .int .u8 0, .int .u8 0, .int .u8 0] 87)) w.heap.size 87 (Sha.maskP key m 0) := Row.new _ _ rfl

set_option maxHeartbeats 1000000 in
theorem digestKeyed (w : World) (key : List UInt8) (hk : key.length = 32) (Ck : Array Value) (hC : Hid (Ck = (key.map u8V).toArray)) (v : Value) (b : List UInt8) (hb : Rd u8V w v b) (hlen : b.length ≤ 900000000)
    (tg : TypeId) (fg : Nat × Nat) (hg : w.heap[0]? = some (.cells (Sha.consts.map u32V).toArray tg fg)) :
    Calls Tryz.prog 28 #[.agg Ck, v] w fun e w' => ∃ C, e = .returned (.agg C) ∧ Hid (C = ((Sha.keyed key b).map u8V).toArray) ∧ Below w.heap.size w w' := by
  have HK := Lib.hid hk
  clear hk
  have hK0 : Row u8V (w.alloc (.cells Ck 23)) w.heap.size 23 key := Row.new w _ (by rw [hC.out])
  go_enter Tryz.func28, Tryz.ntmps28
  go_wp2_with fail
  generalize hZZ : Obj.cells _ 87 _ = Z
  generalize hOO : Obj.cells #[.int .u8 0, .int .u8 0, .int .u8 0, .int .u8 0, .int .u8 0, .int .u8 0, .int .u8 0, .int .u8 0, .int .u8 0, .int .u8 0, .int .u8 0, .int .u8 0, .int .u8 0, .int .u8 0, .int .u8 0, .int .u8 0, .int .u8 0, .int .u8 0, .int .u8 0, .int .u8 0, .int .u8 0, .int .u8 0, .int .u8 0, .int .u8 0, .int .u8 0, .int .u8 0, .int .u8 0, .int .u8 0, .int .u8 0, .int .u8 0, .int .u8 0, .int .u8 0] 23 = O
  have hz : ∀ (X : World) (m : UInt8), Row u8V (X.alloc Z) X.heap.size 87 (Sha.maskP key m 0) := fun X m => by rw [← hZZ]; exact zeros64 X key m
  have ho : ∀ X : World, Row u8V (X.alloc O) X.heap.size 23 (List.replicate 32 0) := fun X => by rw [← hOO]; exact zeros32 X
  clear hZZ hOO
  have hZ0 : Row u8V ((((w.alloc (.cells Ck 23)).alloc O).alloc Z).alloc Z) (w.heap.size + 1) 23 (List.replicate 32 0) := by
    have := ho (w.alloc (.cells Ck 23))
    rw [World.size_alloc] at this
    exact (this.alloc _).alloc _
  have hI0 : Row u8V ((((w.alloc (.cells Ck 23)).alloc O).alloc Z).alloc Z) (w.heap.size + 1 + 1) 87 (Sha.maskP key 54 0) := by
    have := hz ((w.alloc (.cells Ck 23)).alloc O) 54
    rw [World.size_alloc, World.size_alloc] at this
    exact this.alloc _
  have hJ0 : Row u8V ((((w.alloc (.cells Ck 23)).alloc O).alloc Z).alloc Z) (w.heap.size + 1 + 1 + 1) 87 (Sha.maskP key 92 0) := by
    have := hz (((w.alloc (.cells Ck 23)).alloc O).alloc Z) 92
    rwa [World.size_alloc, World.size_alloc, World.size_alloc] at this
  have hB0 : Below w.heap.size w ((((w.alloc (.cells Ck 23)).alloc O).alloc Z).alloc Z) := ((((Below.refl _ _).alloc (Nat.le_refl _) _).alloc (by simp) _).alloc (by simp; omega) _).alloc (by simp; omega) _
  have hK1 : Row u8V ((((w.alloc (.cells Ck 23)).alloc O).alloc Z).alloc Z) w.heap.size 23 key := ((hK0.alloc _).alloc _).alloc _
  have hs0 : ((((w.alloc (.cells Ck 23)).alloc O).alloc Z).alloc Z).heap.size = w.heap.size + 4 := by simp
  generalize ((((w.alloc (.cells Ck 23)).alloc O).alloc Z).alloc Z) = wl at hZ0 hI0 hJ0 hB0 hK1 hs0 ⊢
  clear hz ho
  clear hK0
  go_loopw [10] (fun i wr => ∃ k : Nat, k ≤ 64 ∧ i = .int .i64 k ∧ Row u8V wr (w.heap.size + 1 + 1) 87 (Sha.maskP key 54 k) ∧ Row u8V wr (w.heap.size + 1 + 1 + 1) 87 (Sha.maskP key 92 k) ∧ Row u8V wr w.heap.size 23 key ∧ Row u8V wr (w.heap.size + 1) 23 (List.replicate 32 0) ∧ Below w.heap.size w wr ∧ wr.heap.size = w.heap.size + 4) (fun i _ => 64 - (intOf i).toNat)
  case atStart => exact ⟨0, by omega, rfl, hI0, hJ0, hK1, hZ0, hB0, hs0⟩
  case round =>
    clear hZ0 hI0 hJ0 hB0 hK1 hs0
    obtain ⟨k, hk, rfl, hI, hJ, hKr, hZ, hB, hs⟩ := hrel
    have hk3 : k < 32 ∨ (¬ k < 32 ∧ k < 64) ∨ k = 64 := by omega
    rcases hk3 with hlt | ⟨hge, hlt⟩ | rfl
    · skip
      have c0 : wr.cell? ⟨w.heap.size, k, none⟩ = some (.int .u8 (key[k]?.getD 0).toNat) := hKr.cell 0 k (by rw [HK.out]; exact hlt)
      have HS := Lib.hid (Sha.maskP_set key 54 k (by omega) _ (Sha.maskN_lo key 54 k hlt))
      have HS2 := Lib.hid (Sha.maskP_set key 92 k (by omega) _ (Sha.maskN_lo key 92 k hlt))
      have hx := Words.u8_xor (key[k]?.getD 0) 54
      have hx2 := Words.u8_xor (key[k]?.getD 0) 92
      generalize key[k]?.getD 0 = x at c0 HS HS2 hx hx2
      have hxa : bits .xor .u8 (x.toNat : Int) 54 = (((x ^^^ 54).toNat : Nat) : Int) := hx
      have hxb : bits .xor .u8 (x.toNat : Int) 92 = (((x ^^^ 92).toNat : Nat) : Int) := hx2
      clear hx hx2
      generalize x ^^^ 54 = y at hxa HS
      generalize x ^^^ 92 = z at hxb HS2
      have f1 := hI.frozen k
      have f2 := hJ.frozen k
      have d1 := hI.cell 0 k (by rw [Sha.maskP_length _ _ _ hk]; omega)
      have d2 := hJ.cell 0 k (by rw [Sha.maskP_length _ _ _ hk]; omega)
      have q0 : (k : Int) < 32 := by omega
      have q1 : (k : Int) < 64 := by omega
      have q2 : k < 64 := by omega
      go_wp2
      have hI2 := (hI.set k y).set_other (b' := w.heap.size + 1 + 1 + 1) (by omega) k (u8V z)
      have hJ2 := (hJ.set_other (b' := w.heap.size + 1 + 1) (by omega) k (u8V y)).set k z
      have hK2 := (hKr.set_other (b' := w.heap.size + 1 + 1) (by omega) k (u8V y)).set_other (b' := w.heap.size + 1 + 1 + 1) (by omega) k (u8V z)
      have hZ2 := (hZ.set_other (b' := w.heap.size + 1 + 1) (by omega) k (u8V y)).set_other (b' := w.heap.size + 1 + 1 + 1) (by omega) k (u8V z)
      have hB2 : Below w.heap.size w ((wr.setCell ⟨w.heap.size + 1 + 1, k, none⟩ (u8V y)).setCell ⟨w.heap.size + 1 + 1 + 1, k, none⟩ (u8V z)) := Below.setCell (Below.setCell hB (p := ⟨w.heap.size + 1 + 1, k, none⟩) (by show w.heap.size ≤ w.heap.size + 1 + 1; omega) _) (p := ⟨w.heap.size + 1 + 1 + 1, k, none⟩) (by show w.heap.size ≤ w.heap.size + 1 + 1 + 1; omega) _
      rw [HS.out] at hI2
      rw [HS2.out] at hJ2
      go_roundw
      case rel => exact ⟨k + 1, by omega, by go_num, hI2, hJ2, hK2, hZ2, hB2, by simpa using hs⟩
      case measure => simp [intOf]; omega
    · skip
      have HS := Lib.hid (Sha.maskP_set key 54 k (by omega) _ (Sha.maskN_hi key 54 k hge))
      have HS2 := Lib.hid (Sha.maskP_set key 92 k (by omega) _ (Sha.maskN_hi key 92 k hge))
      have hxa : bits .xor .u8 0 54 = ((((54 : UInt8)).toNat : Nat) : Int) := by decide
      have hxb : bits .xor .u8 0 92 = ((((92 : UInt8)).toNat : Nat) : Int) := by decide
      generalize (54 : UInt8) = y at hxa HS hI
      generalize (92 : UInt8) = z at hxb HS2 hJ
      have f1 := hI.frozen k
      have f2 := hJ.frozen k
      have d1 := hI.cell 0 k (by rw [Sha.maskP_length _ _ _ hk]; omega)
      have d2 := hJ.cell 0 k (by rw [Sha.maskP_length _ _ _ hk]; omega)
      have q0 : ¬ (k : Int) < 32 := by omega
      have q1 : (k : Int) < 64 := by omega
      have q2 : k < 64 := by omega
      go_wp2
      have hI2 := (hI.set k y).set_other (b' := w.heap.size + 1 + 1 + 1) (by omega) k (u8V z)
      have hJ2 := (hJ.set_other (b' := w.heap.size + 1 + 1) (by omega) k (u8V y)).set k z
      have hK2 := (hKr.set_other (b' := w.heap.size + 1 + 1) (by omega) k (u8V y)).set_other (b' := w.heap.size + 1 + 1 + 1) (by omega) k (u8V z)
      have hZ2 := (hZ.set_other (b' := w.heap.size + 1 + 1) (by omega) k (u8V y)).set_other (b' := w.heap.size + 1 + 1 + 1) (by omega) k (u8V z)
      have hB2 : Below w.heap.size w ((wr.setCell ⟨w.heap.size + 1 + 1, k, none⟩ (u8V y)).setCell ⟨w.heap.size + 1 + 1 + 1, k, none⟩ (u8V z)) := Below.setCell (Below.setCell hB (p := ⟨w.heap.size + 1 + 1, k, none⟩) (by show w.heap.size ≤ w.heap.size + 1 + 1; omega) _) (p := ⟨w.heap.size + 1 + 1 + 1, k, none⟩) (by show w.heap.size ≤ w.heap.size + 1 + 1 + 1; omega) _
      rw [HS.out] at hI2
      rw [HS2.out] at hJ2
      go_roundw
      case rel => exact ⟨k + 1, by omega, by go_num, hI2, hJ2, hK2, hZ2, hB2, by simpa using hs⟩
      case measure => simp [intOf]; omega
    · rw [Sha.maskP_all] at hI hJ
      have HML := Lib.hid (show (Sha.masked key 54).length = 64 from Sha.maskN_length _ _ _)
      have HML2 := Lib.hid (show (Sha.masked key 92).length = 64 from Sha.maskN_length _ _ _)
      have HE := Lib.hid (show Sha.keyed key b = Sha.sum (Sha.masked key 92 ++ Sha.sum (Sha.masked key 54 ++ b)) from rfl)
      generalize Sha.masked key 54 = m1 at hI HML HE
      generalize Sha.masked key 92 = m2 at hJ HML2 HE
      clear hk
      have hbr := hb.below hB
      obtain ⟨pv, cv, hv⟩ := hbr.slice
      subst hv
      go_wp2_with fail
      have hPR : Row Prod.fst (wr.alloc (Obj.cells #[.slice (some ⟨w.heap.size + 1 + 1, 0, none⟩) 64 64, .slice pv b.length cv] 36)) (w.heap.size + 4) 36 [((.slice (some ⟨w.heap.size + 1 + 1, 0, none⟩) 64 64 : Value), m1), ((.slice pv b.length cv : Value), b)] := by
        have := Row.new (f := (Prod.fst : Part → Value)) (t := 36) (l := [((.slice (some ⟨w.heap.size + 1 + 1, 0, none⟩) 64 64 : Value), m1), ((.slice pv b.length cv : Value), b)]) wr (Obj.cells #[.slice (some ⟨w.heap.size + 1 + 1, 0, none⟩) 64 64, .slice pv b.length cv] 36) rfl
        rwa [hs] at this
      have hrd : ∀ x ∈ [((.slice (some ⟨w.heap.size + 1 + 1, 0, none⟩) 64 64 : Value), m1), ((.slice pv b.length cv : Value), b)], Rd u8V (wr.alloc (Obj.cells #[.slice (some ⟨w.heap.size + 1 + 1, 0, none⟩) 64 64, .slice pv b.length cv] 36)) x.1 x.2 := by
        intro x hx
        simp only [List.mem_cons, List.not_mem_nil, or_false] at hx
        rcases hx with rfl | rfl
        · refine Rd.alloc (.inr ⟨w.heap.size + 1 + 1, 0, 64, ?_, ?_, hI.at, hI.lt⟩) _
          · rw [HML.out]
          · rw [HML.out]; omega
        · exact hbr.alloc _
      have hcat : cat [((.slice (some ⟨w.heap.size + 1 + 1, 0, none⟩) 64 64 : Value), m1), ((.slice pv b.length cv : Value), b)] = m1 ++ b := by simp [cat]
      have hgw : (wr.alloc (Obj.cells #[.slice (some ⟨w.heap.size + 1 + 1, 0, none⟩) 64 64, .slice pv b.length cv] 36)).heap[0]? = some (.cells (Sha.consts.map u32V).toArray tg fg) := by
        have h0 : 0 < w.heap.size := (Array.getElem?_eq_some_iff.1 hg).1
        exact (Below.heap_alloc _ _ _ (by omega)).trans ((hB.block 0 h0).trans hg)
      refine (digestHash _ (w.heap.size + 4) 0 2 [((.slice (some ⟨w.heap.size + 1 + 1, 0, none⟩) 64 64 : Value), m1), ((.slice pv b.length cv : Value), b)] hPR.at hPR.lt hrd (by rw [hcat, List.length_append, HML.out]; omega) (by simp) tg fg hgw).mono ?_
      rw [hcat]
      rintro e w2 ⟨C2, rfl, HC2, hB2⟩
      have hJ2 := (hJ.alloc (Obj.cells #[.slice (some ⟨w.heap.size + 1 + 1, 0, none⟩) 64 64, .slice pv b.length cv] 36)).below hB2 (by simp; omega)
      have hZ2 := (hZ.alloc (Obj.cells #[.slice (some ⟨w.heap.size + 1 + 1, 0, none⟩) 64 64, .slice pv b.length cv] 36)).below hB2 (by simp; omega)
      have hBw2 : Below w.heap.size w w2 := (hB.alloc hB.size _).trans (hB2.mono (by simp; omega))
      have hs2 : w.heap.size + 5 ≤ w2.heap.size := by have := hB2.size; simp at this; omega
      clear hPR hrd hcat hgw hB2 hI hJ hKr hZ hB hbr hb hs
      clear wr
      have HIL := Lib.hid (show (Sha.sum (m1 ++ b)).length = 32 by simp [Sha.sum, Sha.out])
      generalize Sha.sum (m1 ++ b) = inn at HC2 HIL HE
      have harri : AggT Tryz.prog 23 inn.length := by rw [HIL.out]; exact arr23
      go_wp2_with ((with_reducible refine store_agg (f := u8V) (l := List.replicate 32 0) (l' := inn) (t := 23) (C := C2) harri (.tmp 9) (.tmp 30) ?_ ?_ w2.heap.size ?_ ?_ ?_ ?_ ?_ u8V_one ?_); rfl; rfl; rfl; exact HC2.out; rfl; exact (zeros32 w2); exact HIL.out; intro w4 hI4 hG4 hz4)
      have hJ4 := (hJ2.alloc (Obj.cells ((List.replicate 32 0).map u8V).toArray 23)).grown hG4 (by simp; omega)
      have hZ4 := (hZ2.alloc (Obj.cells ((List.replicate 32 0).map u8V).toArray 23)).grown hG4 (by simp; omega)
      have hB4 : Below w.heap.size w w4 := (hBw2.alloc hBw2.size _).grown hG4 (by simp; omega) (by intro k e; cases e; omega)
      clear hJ2 hZ2 hBw2 hG4 hz4
      go_still_tail 2, (by kernel_rfl)
      change wpList _ _ _ _ _ w4.drew
      have hJ5 := hJ4.drew
      have hZ5 := hZ4.drew
      have hI5 := hI4.drew
      have hB5 := hB4.drew
      generalize w4.drew = w5 at hJ5 hZ5 hI5 hB5 ⊢
      clear hJ4 hZ4 hI4 hB4
      clear w4
      go_wp2_with fail
      have hPR : Row Prod.fst (w5.alloc (Obj.cells #[.slice (some ⟨w.heap.size + 1 + 1 + 1, 0, none⟩) 64 64, .slice (some ⟨w2.heap.size, 0, none⟩) 32 32] 36)) w5.heap.size 36 [((.slice (some ⟨w.heap.size + 1 + 1 + 1, 0, none⟩) 64 64 : Value), m2), ((.slice (some ⟨w2.heap.size, 0, none⟩) 32 32 : Value), inn)] := Row.new (f := (Prod.fst : Part → Value)) (t := 36) (l := [((.slice (some ⟨w.heap.size + 1 + 1 + 1, 0, none⟩) 64 64 : Value), m2), ((.slice (some ⟨w2.heap.size, 0, none⟩) 32 32 : Value), inn)]) w5 (Obj.cells #[.slice (some ⟨w.heap.size + 1 + 1 + 1, 0, none⟩) 64 64, .slice (some ⟨w2.heap.size, 0, none⟩) 32 32] 36) rfl
      have hrd : ∀ x ∈ [((.slice (some ⟨w.heap.size + 1 + 1 + 1, 0, none⟩) 64 64 : Value), m2), ((.slice (some ⟨w2.heap.size, 0, none⟩) 32 32 : Value), inn)], Rd u8V (w5.alloc (Obj.cells #[.slice (some ⟨w.heap.size + 1 + 1 + 1, 0, none⟩) 64 64, .slice (some ⟨w2.heap.size, 0, none⟩) 32 32] 36)) x.1 x.2 := by
        intro x hx
        simp only [List.mem_cons, List.not_mem_nil, or_false] at hx
        rcases hx with rfl | rfl
        · refine Rd.alloc (.inr ⟨w.heap.size + 1 + 1 + 1, 0, 64, ?_, ?_, hJ5.at, hJ5.lt⟩) _
          · rw [HML2.out]
          · rw [HML2.out]; omega
        · refine Rd.alloc (.inr ⟨w2.heap.size, 0, 32, ?_, ?_, hI5.at, hI5.lt⟩) _
          · rw [HIL.out]
          · rw [HIL.out]; omega
      have hcat : cat [((.slice (some ⟨w.heap.size + 1 + 1 + 1, 0, none⟩) 64 64 : Value), m2), ((.slice (some ⟨w2.heap.size, 0, none⟩) 32 32 : Value), inn)] = m2 ++ inn := by simp [cat]
      have hgw : (w5.alloc (Obj.cells #[.slice (some ⟨w.heap.size + 1 + 1 + 1, 0, none⟩) 64 64, .slice (some ⟨w2.heap.size, 0, none⟩) 32 32] 36)).heap[0]? = some (.cells (Sha.consts.map u32V).toArray tg fg) := by
        have h0 : 0 < w.heap.size := (Array.getElem?_eq_some_iff.1 hg).1
        have := hB5.size
        exact (Below.heap_alloc _ _ _ (by omega)).trans ((hB5.block 0 h0).trans hg)
      refine (digestHash _ w5.heap.size 0 2 [((.slice (some ⟨w.heap.size + 1 + 1 + 1, 0, none⟩) 64 64 : Value), m2), ((.slice (some ⟨w2.heap.size, 0, none⟩) 32 32 : Value), inn)] hPR.at hPR.lt hrd (by rw [hcat, List.length_append, HML2.out, HIL.out]; omega) (by simp) tg fg hgw).mono ?_
      rw [hcat, ← HE.out]
      rintro e w6 ⟨C6, rfl, HC6, hB6⟩
      have hZ6 := (hZ5.alloc (Obj.cells #[.slice (some ⟨w.heap.size + 1 + 1 + 1, 0, none⟩) 64 64, .slice (some ⟨w2.heap.size, 0, none⟩) 32 32] 36)).below hB6 (by have := hZ5.lt; simp; omega)
      have hBw6 : Below w.heap.size w w6 := (hB5.alloc hB5.size _).trans (hB6.mono (by have := hB5.size; simp; omega))
      clear hPR hrd hcat hgw hB6 hI5 hJ5 hZ5 hB5
      have HKL := Lib.hid (show (Sha.keyed key b).length = 32 by simp [Sha.keyed, Sha.sum, Sha.out])
      have harr : AggT Tryz.prog 23 (Sha.keyed key b).length := by rw [HKL.out]; exact arr23
      go_wp2_with ((with_reducible refine store_agg (f := u8V) (l := List.replicate 32 0) (l' := Sha.keyed key b) (t := 23) (C := C6) harr (.tmp 4) (.tmp 34) ?_ ?_ (w.heap.size + 1) ?_ ?_ ?_ ?_ ?_ u8V_one ?_); rfl; rfl; rfl; exact HC6.out; rfl; exact hZ6; exact HKL.out; intro w9 hR9 hG9 hz9)
      refine bodyPost_ret (v := .agg ((Sha.keyed key b).map u8V).toArray) (results_agg (l := Sha.keyed key b) (f := u8V) rfl _ harr (w.heap.size + 1) 0 rfl hR9.at) rfl ?_
      exact ⟨_, rfl, Lib.hid rfl, hBw6.grown hG9 hBw6.size (fun k e => by cases e; omega)⟩
end Go.Proofs.YteglnpanimgelaaGreatDoor
