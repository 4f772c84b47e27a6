/- The validity of a statement that appends a field: its name, its fields, the statement. -/
import Derived.BigQuiet
import Derived.Deep.LoopGhost
import Derived.Test.YtgflelodpcgmbaaGreatDoorMDial
namespace Go.Proofs.YtgflelodpcgmbaaGreatDoor
open Go.RowKit Mem
set_option maxRecDepth 100000

set_option maxHeartbeats 4000000 in
theorem dName (w : World) (nm : ByteArray) (HA : Hid (∀ b ∈ nm.data.toList, 97 ≤ b.toNat ∧ b.toNat ≤ 122)) (h1 : 1 ≤ nm.size) (h8 : nm.size ≤ 8) :
    Calls Tryz.prog 137 #[.string nm] w fun e w' => e = .returned (.bool true) ∧ Below w.heap.size w w' := by
  go_enter Tryz.func137, Tryz.ntmps137
  have hb0 := below_bytes w 5 nm
  have HC := Lib.hid (Lib.bytesWorld_cell w 5 nm)
  go_wp2_with ((with_reducible refine convert_sb (.tmp 5) ?_ ?_ Tryz.underlying9 Tryz.underlying29 Tryz.underlying5 nm ?_ ?_); rfl; rfl; rfl; (generalize Lib.bytesWorld w 5 nm = wb at *))
  go_loopw [8] (fun i wr => ∃ (k : Nat), k ≤ nm.size ∧ i = .int .i64 k ∧ wr = wb) (fun i _ => nm.size - (intOf i).toNat)
  case atStart => exact ⟨0, by omega, rfl, rfl⟩
  case round =>
    obtain ⟨k, hk, rfl, rfl⟩ := hrel
    by_cases hlt : k < nm.size
    · have hq : (k : Int) < (nm.size : Int) := by omega
      have hc := HC.out k hlt
      have hm := HA.out (nm.data.toList.getD k 0) (by
        have hl : nm.data.toList.length = nm.size := Array.length_toList
        rw [List.getD_eq_getElem?_getD, List.getElem?_eq_getElem (by omega)]
        exact List.getElem_mem _)
      generalize nm.data.toList.getD k 0 = b at hc hm
      have hm1 : ¬ ((b.toNat : Int) < 97) := by omega
      have hm2 : ¬ (122 < (b.toNat : Int)) := by omega
      go_wp2_with fail
      go_roundw
      case rel => exact ⟨k + 1, by omega, by go_num, by trivial⟩
      case measure => simp [intOf]; omega
    · obtain rfl : k = nm.size := by omega
      go_wp2_with fail
      refine (dIn wr nm.size 1 8).mono ?_
      rintro e _ ⟨rfl, rfl⟩
      rw [show (decide ((1 : Int) ≤ (nm.size : Int)) && decide ((nm.size : Int) ≤ 8)) = true from by simp; omega]
      go_wp2
      go_ret
      exact ⟨rfl, hb0⟩

set_option maxHeartbeats 8000000 in
theorem dBare13 (w : World) (x : Int) (nm : ByteArray) (C : Array Value) (HC : Hid (C = ((stC 13 x nm (-1) (-1)).map oV).toArray)) :
    Calls Tryz.prog 132 #[.agg C] w fun e w' => e = .returned (.bool true) ∧ Below w.heap.size w w' := by
  have hR0 : Row oV (w.alloc (.cells C 125)) w.heap.size 125 (stC 13 x nm (-1) (-1)) := Row.new w _ (by rw [HC.out])
  have hB0 : Below w.heap.size w (w.alloc (.cells C 125)) := (Below.refl _ _).alloc (Nat.le_refl _) _
  go_enter Tryz.func132, Tryz.ntmps132
  go_wp2_with ((with_reducible refine load_agg (f := oV) (l := stC 13 x nm (-1) (-1)) (aggStmtL _ _ _ _ _) (.tmp 1) ?_ ?_ w.heap.size 0 ?_ hR0.at HC.out ?_); rfl; rfl; rfl)
  refine (dRest13 _ x nm C HC).mono ?_
  rintro e W2 ⟨C2, rfl, HC2, hB2⟩
  replace hB2 := hB0.trans (hB2.mono hB0.size)
  clear hR0 hB0
  have hZ : Row oV (W2.alloc (.cells zStmtC 125)) W2.heap.size 125 (stC 0 0 ⟨#[]⟩ 0 0) := Row.new _ _ rfl
  have hBz : Below w.heap.size w (W2.alloc (.cells zStmtC 125)) := hB2.alloc hB2.size _
  go_wp2_with ((with_reducible refine store_agg (f := oV) (l := stC 0 0 ⟨#[]⟩ 0 0) (l' := stC 13 0 ⟨#[]⟩ (-1) (-1)) (t := 125) (C := C2) (aggStmtL _ _ _ _ _) (.tmp 3) (.tmp 8) ?_ ?_ W2.heap.size ?_ ?_ ?_ hZ ?_ oV_one ?_); rfl; rfl; rfl; exact HC2.out; rfl; rfl; (intro W5 hs5 hG5 hz5); (refine Pause.back ?_))
  have hB5 := hBz.grown hG5 (by simp; exact Nat.le_trans hB2.size (Nat.le_succ _)) (fun k e => by cases e; exact hB2.size)
  clear hZ hBz hG5 hz5 hB2
  generalize W2.heap.size = b3 at *
  clear W2
  have c0 : W5.cell? ⟨b3, 0, none⟩ = some (.int .i64 13) := by rw [hs5.cell?]; rfl
  have c1 : W5.cell? ⟨b3, 1, none⟩ = some (.int .i64 0) := by rw [hs5.cell?]; rfl
  have c2 : W5.cell? ⟨b3, 2, none⟩ = some (.int .i64 0) := by rw [hs5.cell?]; rfl
  have c3 : W5.cell? ⟨b3, 3, none⟩ = some (.int .i64 0) := by rw [hs5.cell?]; rfl
  have c4 : W5.cell? ⟨b3, 4, none⟩ = some (.int .i64 0) := by rw [hs5.cell?]; rfl
  have c5 : W5.cell? ⟨b3, 5, none⟩ = some (.int .i64 0) := by rw [hs5.cell?]; rfl
  have c6 : W5.cell? ⟨b3, 6, none⟩ = some (.int .i64 0) := by rw [hs5.cell?]; rfl
  have c7 : W5.cell? ⟨b3, 7, none⟩ = some (.slice none 0 0) := by rw [hs5.cell?]; rfl
  have c8 : W5.cell? ⟨b3, 8, none⟩ = some (.bool false) := by rw [hs5.cell?]; rfl
  have c9 : W5.cell? ⟨b3, 9, none⟩ = some (.int .i64 0) := by rw [hs5.cell?]; rfl
  have c10 : W5.cell? ⟨b3, 10, none⟩ = some (.slice none 0 0) := by rw [hs5.cell?]; rfl
  have c11 : W5.cell? ⟨b3, 11, none⟩ = some (.slice none 0 0) := by rw [hs5.cell?]; rfl
  have c12 : W5.cell? ⟨b3, 12, none⟩ = some (.int .u64 0) := by rw [hs5.cell?]; rfl
  have c13 : W5.cell? ⟨b3, 13, none⟩ = some (.int .u64 0) := by rw [hs5.cell?]; rfl
  have c14 : W5.cell? ⟨b3, 14, none⟩ = some (.int .u64 0) := by rw [hs5.cell?]; rfl
  have c15 : W5.cell? ⟨b3, 15, none⟩ = some (.int .u64 0) := by rw [hs5.cell?]; rfl
  have c16 : W5.cell? ⟨b3, 16, none⟩ = some (.int .i64 0) := by rw [hs5.cell?]; rfl
  have c17 : W5.cell? ⟨b3, 17, none⟩ = some (.int .i64 0) := by rw [hs5.cell?]; rfl
  have c18 : W5.cell? ⟨b3, 18, none⟩ = some (.int .i64 0) := by rw [hs5.cell?]; rfl
  have c19 : W5.cell? ⟨b3, 19, none⟩ = some (.int .i64 0) := by rw [hs5.cell?]; rfl
  have c20 : W5.cell? ⟨b3, 20, none⟩ = some (.bool false) := by rw [hs5.cell?]; rfl
  have c21 : W5.cell? ⟨b3, 21, none⟩ = some (.slice none 0 0) := by rw [hs5.cell?]; rfl
  have c22 : W5.cell? ⟨b3, 22, none⟩ = some (.slice none 0 0) := by rw [hs5.cell?]; rfl
  have c23 : W5.cell? ⟨b3, 23, none⟩ = some (.int .i64 0) := by rw [hs5.cell?]; rfl
  have c24 : W5.cell? ⟨b3, 24, none⟩ = some (.bool false) := by rw [hs5.cell?]; rfl
  have c25 : W5.cell? ⟨b3, 25, none⟩ = some (.int .i64 0) := by rw [hs5.cell?]; rfl
  have c26 : W5.cell? ⟨b3, 26, none⟩ = some (.int .i64 0) := by rw [hs5.cell?]; rfl
  have c27 : W5.cell? ⟨b3, 27, none⟩ = some (.int .i64 0) := by rw [hs5.cell?]; rfl
  have c28 : W5.cell? ⟨b3, 28, none⟩ = some (.int .i64 0) := by rw [hs5.cell?]; rfl
  have c29 : W5.cell? ⟨b3, 29, none⟩ = some (.slice none 0 0) := by rw [hs5.cell?]; rfl
  have c30 : W5.cell? ⟨b3, 30, none⟩ = some (.string ⟨#[]⟩) := by rw [hs5.cell?]; rfl
  have c31 : W5.cell? ⟨b3, 31, none⟩ = some (.int .i64 (-1)) := by rw [hs5.cell?]; rfl
  have c32 : W5.cell? ⟨b3, 32, none⟩ = some (.int .i64 (-1)) := by rw [hs5.cell?]; rfl
  have HS := Lib.hid hs5
  clear hs5
  have q1 : ∀ w, (Op.equalIn 10000 80 (.agg #[.int .u64 0, .int .u64 0, .int .u64 0, .int .u64 0]) (.agg #[.int .u64 0, .int .u64 0, .int .u64 0, .int .u64 0])).run Tryz.prog w = .ok true w := fun w => by kernel_rfl
  have q2 : ∀ w, (Op.equalIn 10000 116 (.agg #[.int .i64 0, .int .i64 0, .int .i64 0, .int .i64 0, .bool false]) (.agg #[.int .i64 0, .int .i64 0, .int .i64 0, .int .i64 0, .bool false])).run Tryz.prog w = .ok true w := fun w => by kernel_rfl
  refine Pause.out ?_
  go_wp2_with fail
  go_ret
  exact ⟨rfl, hB5⟩
end Go.Proofs.YtgflelodpcgmbaaGreatDoor
/- The validity of a statement that appends a field: its fields, the statement. -/
namespace Go.Proofs.YtgflelodpcgmbaaGreatDoor
open Go.RowKit Mem
set_option maxRecDepth 100000

/-- a field's name -/
structure NameOK (nm : ByteArray) : Prop where
  all : ∀ b ∈ nm.data.toList, 97 ≤ b.toNat ∧ b.toNat ≤ 122
  one : 1 ≤ nm.size
  eight : nm.size ≤ 8

set_option maxHeartbeats 8000000 in
theorem dFields13 (w : World) (x : Int) (hx : 0 ≤ x ∧ x ≤ 11) (nm : ByteArray) (HN : Hid (NameOK nm)) (C : Array Value) (HC : Hid (C = ((stC 13 x nm (-1) (-1)).map oV).toArray)) :
    Calls Tryz.prog 111 #[.agg C] w fun e w' => e = .returned (.bool true) ∧ Below w.heap.size w w' := by
  have hR0 : Row oV (w.alloc (.cells C 125)) w.heap.size 125 (stC 13 x nm (-1) (-1)) := Row.new w _ (by rw [HC.out])
  have hB0 : Below w.heap.size w (w.alloc (.cells C 125)) := (Below.refl _ _).alloc (Nat.le_refl _) _
  go_enter Tryz.func111, Tryz.ntmps111
  go_wp2_with ((with_reducible refine load_agg (f := oV) (l := stC 13 x nm (-1) (-1)) (aggStmtL _ _ _ _ _) (.tmp 1) ?_ ?_ w.heap.size 0 ?_ hR0.at HC.out ?_); rfl; rfl; rfl)
  refine (dBare13 _ x nm C HC).mono ?_
  rintro e W2 ⟨rfl, hB2⟩
  replace hR0 := hR0.below hB2 hR0.lt
  replace hB2 := hB0.trans (hB2.mono hB0.size)
  clear hB0
  have c0 : W2.cell? ⟨w.heap.size, 0, none⟩ = some (.int .i64 13) := by rw [hR0.cell?]; rfl
  have c1 : W2.cell? ⟨w.heap.size, 1, none⟩ = some (.int .i64 x) := by rw [hR0.cell?]; rfl
  have c4 : W2.cell? ⟨w.heap.size, 4, none⟩ = some (.int .i64 0) := by rw [hR0.cell?]; rfl
  have c30 : W2.cell? ⟨w.heap.size, 30, none⟩ = some (.string nm) := by rw [hR0.cell?]; rfl
  have c32 : W2.cell? ⟨w.heap.size, 32, none⟩ = some (.int .i64 (-1)) := by rw [hR0.cell?]; rfl
  have HR := Lib.hid hR0
  have HX := Lib.hid (show (decide ((0 : Int) ≤ x) && decide (x ≤ 11)) = true by simp; exact hx)
  clear hR0 hx
  go_wp2_with fail
  refine (dSource W2 x).mono ?_
  rintro e W2 ⟨rfl, rfl⟩
  rw [HX.out]
  go_wp2_with fail
  refine (dIn W2 0 0 3).mono ?_
  rintro e W2 ⟨rfl, rfl⟩
  rw [show (decide ((0 : Int) ≤ 0) && decide ((0 : Int) ≤ 3)) = true from rfl]
  go_wp2_with fail
  refine (dName W2 nm (Lib.hid HN.out.all) HN.out.one HN.out.eight).mono ?_
  rintro e W3 ⟨rfl, hB3⟩
  replace hB2 := hB2.trans (hB3.mono hB2.size)
  go_wp2
  go_ret
  exact ⟨rfl, hB2⟩

set_option maxHeartbeats 8000000 in
theorem dCheck13 (w : World) (x : Int) (hx : 0 ≤ x ∧ x ≤ 11) (nm : ByteArray) (HN : Hid (NameOK nm)) (C : Array Value) (HC : Hid (C = ((stC 13 x nm (-1) (-1)).map oV).toArray)) :
    Calls Tryz.prog 98 #[.agg C] w fun e w' => e = .returned (.int .i64 0) ∧ Below w.heap.size w w' := by
  have hR0 : Row oV (w.alloc (.cells C 125)) w.heap.size 125 (stC 13 x nm (-1) (-1)) := Row.new w _ (by rw [HC.out])
  have hB0 : Below w.heap.size w (w.alloc (.cells C 125)) := (Below.refl _ _).alloc (Nat.le_refl _) _
  go_enter Tryz.func98, Tryz.ntmps98
  go_wp2_with ((with_reducible refine load_agg (f := oV) (l := stC 13 x nm (-1) (-1)) (aggStmtL _ _ _ _ _) (.tmp 1) ?_ ?_ w.heap.size 0 ?_ hR0.at HC.out ?_); rfl; rfl; rfl)
  refine (dFields13 _ x hx nm HN C HC).mono ?_
  rintro e W2 ⟨rfl, hB2⟩
  replace hR0 := hR0.below hB2 hR0.lt
  replace hB2 := hB0.trans (hB2.mono hB0.size)
  clear hB0
  have c0 : W2.cell? ⟨w.heap.size, 0, none⟩ = some (.int .i64 13) := by rw [hR0.cell?]; rfl
  have HR := Lib.hid hR0
  clear hR0 hx
  go_wp2
  go_ret
  exact ⟨rfl, hB2⟩
end Go.Proofs.YtgflelodpcgmbaaGreatDoor
