/- The validity of a statement that appends a field: its name, its fields, the statement. -/
import Derived.BigQuiet
import Derived.Deep.LoopGhost
import Derived.Test.YtllomcmhkocdfaaGreatDoorMDial
import Derived.Test.YtllomcmhkocdfaaGreatDoorMCond
namespace Go.Proofs.YtllomcmhkocdfaaGreatDoor
open Go.RowKit Mem
set_option maxRecDepth 100000

set_option maxHeartbeats 4000000 in
theorem dName (w : World) (nm : ByteArray) (HA : Hid (∀ b ∈ nm.data.toList, 97 ≤ b.toNat ∧ b.toNat ≤ 122)) (h1 : 1 ≤ nm.size) (h8 : nm.size ≤ 8) :
    Calls Tryz.prog 102 #[.string nm] w fun e w' => e = .returned (.bool true) ∧ Below w.heap.size w w' := by
  go_enter Tryz.func102, Tryz.ntmps102
  have hb0 := below_bytes w 5 nm
  have HC := Lib.hid (Lib.bytesWorld_cell w 5 nm)
  go_wp2_with ((with_reducible refine convert_sb (.tmp 5) ?_ ?_ Tryz.underlying9 Tryz.underlying22 Tryz.underlying5 nm ?_ ?_); rfl; rfl; rfl; (generalize Lib.bytesWorld w 5 nm = wb at *))
  go_loopw [8] (fun i wr => ∃ (k : Nat), k ≤ nm.size ∧ i = .int .i64 k ∧ wr = wb) (fun i _ => nm.size - (intOf i).toNat)
  case atStart => exact ⟨0, by omega, rfl, rfl⟩
  case round =>
    obtain ⟨k, hk, rfl, rfl⟩ := hrel
    by_cases hlt : k < nm.size
    · have hq : (k : Int) < (nm.size : Int) := by omega
      have hc := HC.out k hlt
      have hm := HA.out (nm.data.toList.getD k 0) (by
        have hl : nm.data.toList.length = nm.size := Array.length_toList
        rw [List.getD_eq_getElem?_getD, List.getElem?_eq_getElem (by omega)]
        exact List.getElem_mem _)
      generalize nm.data.toList.getD k 0 = b at hc hm
      have hm1 : ¬ ((b.toNat : Int) < 97) := by omega
      have hm2 : ¬ (122 < (b.toNat : Int)) := by omega
      go_wp2_with fail
      go_roundw
      case rel => exact ⟨k + 1, by omega, by go_num, by trivial⟩
      case measure => simp [intOf]; omega
    · obtain rfl : k = nm.size := by omega
      go_wp2_with fail
      refine (dIn wr nm.size 1 8).mono ?_
      rintro e _ ⟨rfl, rfl⟩
      rw [show (decide ((1 : Int) ≤ (nm.size : Int)) && decide ((nm.size : Int) ≤ 8)) = true from by simp; omega]
      go_wp2
      go_ret
      exact ⟨rfl, hb0⟩

end Go.Proofs.YtllomcmhkocdfaaGreatDoor

/- The validity of a statement that appends a field: its fields, the statement. -/
namespace Go.Proofs.YtllomcmhkocdfaaGreatDoor
open Go.RowKit Mem
set_option maxRecDepth 100000

/-- a field's name -/
structure NameOK (nm : ByteArray) : Prop where
  all : ∀ b ∈ nm.data.toList, 97 ≤ b.toNat ∧ b.toNat ≤ 122
  one : 1 ≤ nm.size
  eight : nm.size ≤ 8

end Go.Proofs.YtllomcmhkocdfaaGreatDoor

/- dialect.bare at a statement that dialect.rest strikes out. -/
namespace Go.Proofs.YtllomcmhkocdfaaGreatDoor
open Go.RowKit Mem
set_option maxRecDepth 100000

/-- rest strikes out all that the statement's kind uses, and leaves nothing -/
def RestOk (s : St) : Prop := ∀ (W : World) (C : Array Value), Hid (C = (s.cs.map oV).toArray) → Calls Tryz.prog 133 #[.agg C] W fun e w' => ∃ C', e = .returned (.agg C') ∧ Hid (C' = ((stZ s.kind).cs.map oV).toArray) ∧ Below W.heap.size W w'

set_option maxHeartbeats 8000000 in
theorem dBare (w : World) (s : St) (HR : RestOk s) (C : Array Value) (HC : Hid (C = (s.cs.map oV).toArray)) :
    Calls Tryz.prog 97 #[.agg C] w fun e w' => e = .returned (.bool true) ∧ Below w.heap.size w w' := by
  have hR0 : Row oV (w.alloc (.cells C 45)) w.heap.size 45 s.cs := Row.new w _ (by rw [HC.out])
  have hB0 : Below w.heap.size w (w.alloc (.cells C 45)) := (Below.refl _ _).alloc (Nat.le_refl _) _
  go_enter Tryz.func97, Tryz.ntmps97
  go_wp2_with ((with_reducible refine load_agg (f := oV) (l := s.cs) (aggSt _) (.tmp 1) ?_ ?_ w.heap.size 0 ?_ hR0.at HC.out ?_); rfl; rfl; rfl)
  refine (HR _ C HC).mono ?_
  rintro e W2 ⟨C2, rfl, HC2, hB2⟩
  replace hB2 := hB0.trans (hB2.mono hB0.size)
  clear hR0 hB0
  generalize s.kind = k at HC2
  clear HR HC
  have hZ : Row oV (W2.alloc (.cells zStmtC 45)) W2.heap.size 45 (stC 0 0 ⟨#[]⟩ 0 0) := Row.new _ _ rfl
  have hBz : Below w.heap.size w (W2.alloc (.cells zStmtC 45)) := hB2.alloc hB2.size _
  go_wp2_with ((with_reducible refine store_agg (f := oV) (l := stC 0 0 ⟨#[]⟩ 0 0) (l' := (stZ k).cs) (t := 45) (C := C2) (aggSt _) (.tmp 3) (.tmp 8) ?_ ?_ W2.heap.size ?_ ?_ ?_ hZ ?_ oV_one ?_); rfl; rfl; rfl; exact HC2.out; rfl; rfl; (intro W5 hs5 hG5 hz5); (refine Pause.back ?_))
  have hB5 := hBz.grown hG5 (by simp; exact Nat.le_trans hB2.size (Nat.le_succ _)) (fun k e => by cases e; exact hB2.size)
  clear hZ hBz hG5 hz5 hB2
  generalize W2.heap.size = b3 at *
  clear W2
  have c0 : W5.cell? ⟨b3, 0, none⟩ = some (.int .i64 k) := by rw [hs5.cell?]; rfl
  have c1 : W5.cell? ⟨b3, 1, none⟩ = some (.int .i64 0) := by rw [hs5.cell?]; rfl
  have c2 : W5.cell? ⟨b3, 2, none⟩ = some (.int .i64 0) := by rw [hs5.cell?]; rfl
  have c3 : W5.cell? ⟨b3, 3, none⟩ = some (.int .i64 0) := by rw [hs5.cell?]; rfl
  have c4 : W5.cell? ⟨b3, 4, none⟩ = some (.int .i64 0) := by rw [hs5.cell?]; rfl
  have c5 : W5.cell? ⟨b3, 5, none⟩ = some (.int .i64 0) := by rw [hs5.cell?]; rfl
  have c6 : W5.cell? ⟨b3, 6, none⟩ = some (.int .i64 0) := by rw [hs5.cell?]; rfl
  have c7 : W5.cell? ⟨b3, 7, none⟩ = some (.slice none 0 0) := by rw [hs5.cell?]; rfl
  have c8 : W5.cell? ⟨b3, 8, none⟩ = some (.bool false) := by rw [hs5.cell?]; rfl
  have c9 : W5.cell? ⟨b3, 9, none⟩ = some (.int .i64 0) := by rw [hs5.cell?]; rfl
  have c10 : W5.cell? ⟨b3, 10, none⟩ = some (.slice none 0 0) := by rw [hs5.cell?]; rfl
  have c11 : W5.cell? ⟨b3, 11, none⟩ = some (.slice none 0 0) := by rw [hs5.cell?]; rfl
  have c12 : W5.cell? ⟨b3, 12, none⟩ = some (.int .u64 0) := by rw [hs5.cell?]; rfl
  have c13 : W5.cell? ⟨b3, 13, none⟩ = some (.int .u64 0) := by rw [hs5.cell?]; rfl
  have c14 : W5.cell? ⟨b3, 14, none⟩ = some (.int .u64 0) := by rw [hs5.cell?]; rfl
  have c15 : W5.cell? ⟨b3, 15, none⟩ = some (.int .u64 0) := by rw [hs5.cell?]; rfl
  have c16 : W5.cell? ⟨b3, 16, none⟩ = some (.int .i64 0) := by rw [hs5.cell?]; rfl
  have c17 : W5.cell? ⟨b3, 17, none⟩ = some (.int .i64 0) := by rw [hs5.cell?]; rfl
  have c18 : W5.cell? ⟨b3, 18, none⟩ = some (.int .i64 0) := by rw [hs5.cell?]; rfl
  have c19 : W5.cell? ⟨b3, 19, none⟩ = some (.int .i64 0) := by rw [hs5.cell?]; rfl
  have c20 : W5.cell? ⟨b3, 20, none⟩ = some (.bool false) := by rw [hs5.cell?]; rfl
  have c21 : W5.cell? ⟨b3, 21, none⟩ = some (.slice none 0 0) := by rw [hs5.cell?]; rfl
  have c22 : W5.cell? ⟨b3, 22, none⟩ = some (.slice none 0 0) := by rw [hs5.cell?]; rfl
  have c23 : W5.cell? ⟨b3, 23, none⟩ = some (.int .i64 0) := by rw [hs5.cell?]; rfl
  have c24 : W5.cell? ⟨b3, 24, none⟩ = some (.bool false) := by rw [hs5.cell?]; rfl
  have c25 : W5.cell? ⟨b3, 25, none⟩ = some (.int .i64 0) := by rw [hs5.cell?]; rfl
  have c26 : W5.cell? ⟨b3, 26, none⟩ = some (.int .i64 0) := by rw [hs5.cell?]; rfl
  have c27 : W5.cell? ⟨b3, 27, none⟩ = some (.int .i64 0) := by rw [hs5.cell?]; rfl
  have c28 : W5.cell? ⟨b3, 28, none⟩ = some (.int .i64 0) := by rw [hs5.cell?]; rfl
  have c29 : W5.cell? ⟨b3, 29, none⟩ = some (.slice none 0 0) := by rw [hs5.cell?]; rfl
  have c30 : W5.cell? ⟨b3, 30, none⟩ = some (.string ⟨#[]⟩) := by rw [hs5.cell?]; rfl
  have c31 : W5.cell? ⟨b3, 31, none⟩ = some (.int .i64 (-1)) := by rw [hs5.cell?]; rfl
  have c32 : W5.cell? ⟨b3, 32, none⟩ = some (.int .i64 (-1)) := by rw [hs5.cell?]; rfl
  have HS := Lib.hid hs5
  clear hs5
  have q1 : ∀ w, (Op.equalIn 10000 34 (.agg #[.int .u64 0, .int .u64 0, .int .u64 0, .int .u64 0]) (.agg #[.int .u64 0, .int .u64 0, .int .u64 0, .int .u64 0])).run Tryz.prog w = .ok true w := fun w => by kernel_rfl
  have q2 : ∀ w, (Op.equalIn 10000 36 (.agg #[.int .i64 0, .int .i64 0, .int .i64 0, .int .i64 0, .bool false]) (.agg #[.int .i64 0, .int .i64 0, .int .i64 0, .int .i64 0, .bool false])).run Tryz.prog w = .ok true w := fun w => by kernel_rfl
  refine Pause.out ?_
  go_wp2_with fail
  go_ret
  exact ⟨rfl, hB5⟩
theorem restOk_1 (x : Int) (y : Int) : RestOk (stCopy x y) := fun W C HC => dRest_1 W x y C HC
theorem restOk_3 (x : Int) (y : Int) (z : Int) (B : Sl) (la : Bool) (els : Int) (lb : List UInt8) : RestOk (stSplit x y z B la els lb) := fun W C HC => dRest_3 W x y z B la els lb C HC
theorem restOk_7 (x : Int) (y : Int) (k0 : Int) (k1 : Int) (k2 : Int) (k3 : Int) : RestOk (stTrim x y k0 k1 k2 k3) := fun W C HC => dRest_7 W x y k0 k1 k2 k3 C HC
theorem restOk_11 (i : Int) (j : Int) (thn : Int) : RestOk (stLoop i j thn) := fun W C HC => dRest_11 W i j thn C HC
theorem restOk_12 : RestOk stBreak := fun W C HC => dRest_12 W C HC
theorem restOk_13 (x : Int) (nm : ByteArray) : RestOk (stField x nm) := fun W C HC => dRest_13 W x nm C HC
theorem restOk_14 (i : Int) : RestOk (stReject i) := fun W C HC => dRest_14 W i C HC
end Go.Proofs.YtllomcmhkocdfaaGreatDoor

/- dialect.fields at valid copies, constants, splits, cuts, takes. -/
namespace Go.Proofs.YtllomcmhkocdfaaGreatDoor
open Go.RowKit Mem
set_option maxRecDepth 100000

set_option maxHeartbeats 8000000 in
theorem dFields_1 (w : World) (x : Int) (y : Int) (hx : 0 ≤ x ∧ x ≤ 11) (hy : 1 ≤ y ∧ y ≤ 11) (C : Array Value) (HC : Hid (C = ((stCopy x y).cs.map oV).toArray)) :
    Calls Tryz.prog 59 #[.agg C] w fun e w' => e = .returned (.bool true) ∧ Below w.heap.size w w' := by
  have hR0 : Row oV (w.alloc (.cells C 45)) w.heap.size 45 (stCopy x y).cs := Row.new w _ (by rw [HC.out])
  have hB0 : Below w.heap.size w (w.alloc (.cells C 45)) := (Below.refl _ _).alloc (Nat.le_refl _) _
  go_enter Tryz.func59, Tryz.ntmps59
  go_wp2_with ((with_reducible refine load_agg (f := oV) (l := (stCopy x y).cs) (aggSt _) (.tmp 1) ?_ ?_ w.heap.size 0 ?_ hR0.at HC.out ?_); rfl; rfl; rfl)
  refine (dBare _ (stCopy x y) (restOk_1 _ _ ) C HC).mono ?_
  rintro e0 W2 ⟨rfl, hB2⟩
  replace hR0 := hR0.below hB2 hR0.lt
  replace hB2 := hB0.trans (hB2.mono hB0.size)
  clear hB0
  have c0 : W2.cell? ⟨w.heap.size, 0, none⟩ = some (.int .i64 1) := by rw [hR0.cell?]; rfl
  have c1 : W2.cell? ⟨w.heap.size, 1, none⟩ = some (.int .i64 x) := by rw [hR0.cell?]; rfl
  have c2 : W2.cell? ⟨w.heap.size, 2, none⟩ = some (.int .i64 y) := by rw [hR0.cell?]; rfl
  have c4 : W2.cell? ⟨w.heap.size, 4, none⟩ = some (.int .i64 0) := by rw [hR0.cell?]; rfl
  have c32 : W2.cell? ⟨w.heap.size, 32, none⟩ = some (.int .i64 (-1)) := by rw [hR0.cell?]; rfl
  have Hhx := Lib.hid hx
  have Hhy := Lib.hid hy
  have hlt2 : w.heap.size < W2.heap.size := hR0.lt
  clear hR0 hx hy
  go_wp2_with fail
  refine (dSource W2 x).mono ?_
  rintro e0 W2 ⟨rfl, rfl⟩
  rw [show (decide ((0 : Int) ≤ x) && decide ((x : Int) ≤ 11)) = true by simp; exact Hhx.out]
  go_wp2_with fail
  refine (dIn W2 0 0 3).mono ?_
  rintro e0 W2 ⟨rfl, rfl⟩
  rw [show (decide ((0 : Int) ≤ 0) && decide ((0 : Int) ≤ 3)) = true from rfl]
  go_wp2_with fail
  have hRl : Row iV (W2.alloc (.cells #[.int .i64 y] 3)) W2.heap.size 3 [y] := Row.new _ _ rfl
  replace hB2 := hB2.alloc hB2.size (.cells #[.int .i64 y] 3)
  refine (dTargets _ _ [y] (.inr ⟨_, 0, 1, rfl, by simp, hRl.at, hRl.lt⟩) (by simp) (by intro v hv; rw [List.mem_singleton] at hv; subst hv; exact Hhy.out) (by simp)).mono ?_
  rintro e0 W3 ⟨rfl, hW3⟩
  rw [← hW3] at hB2
  clear hRl hW3
  go_wp2_with fail
  go_ret
  exact ⟨rfl, hB2⟩
set_option maxHeartbeats 8000000 in
theorem dFields_3 (w : World) (x : Int) (y : Int) (z : Int) (B : Sl) (la : Bool) (els : Int) (lb : List UInt8) (hx : 0 ≤ x ∧ x ≤ 11) (hy : 1 ≤ y ∧ y ≤ 11) (hz : 1 ≤ z ∧ z ≤ 11) (hyz : y ≠ z) (he : -1 ≤ els) (hb : 1 ≤ B.n ∧ B.n ≤ 8) (C : Array Value) (HC : Hid (C = ((stSplit x y z B la els lb).cs.map oV).toArray)) :
    Calls Tryz.prog 59 #[.agg C] w fun e w' => e = .returned (.bool true) ∧ Below w.heap.size w w' := by
  have hR0 : Row oV (w.alloc (.cells C 45)) w.heap.size 45 (stSplit x y z B la els lb).cs := Row.new w _ (by rw [HC.out])
  have hB0 : Below w.heap.size w (w.alloc (.cells C 45)) := (Below.refl _ _).alloc (Nat.le_refl _) _
  go_enter Tryz.func59, Tryz.ntmps59
  go_wp2_with ((with_reducible refine load_agg (f := oV) (l := (stSplit x y z B la els lb).cs) (aggSt _) (.tmp 1) ?_ ?_ w.heap.size 0 ?_ hR0.at HC.out ?_); rfl; rfl; rfl)
  refine (dBare _ (stSplit x y z B la els lb) (restOk_3 _ _ _ _ _ _ _ ) C HC).mono ?_
  rintro e0 W2 ⟨rfl, hB2⟩
  replace hR0 := hR0.below hB2 hR0.lt
  replace hB2 := hB0.trans (hB2.mono hB0.size)
  clear hB0
  have c0 : W2.cell? ⟨w.heap.size, 0, none⟩ = some (.int .i64 3) := by rw [hR0.cell?]; rfl
  have c1 : W2.cell? ⟨w.heap.size, 1, none⟩ = some (.int .i64 x) := by rw [hR0.cell?]; rfl
  have c2 : W2.cell? ⟨w.heap.size, 2, none⟩ = some (.int .i64 y) := by rw [hR0.cell?]; rfl
  have c3 : W2.cell? ⟨w.heap.size, 3, none⟩ = some (.int .i64 z) := by rw [hR0.cell?]; rfl
  have c4 : W2.cell? ⟨w.heap.size, 4, none⟩ = some (.int .i64 0) := by rw [hR0.cell?]; rfl
  have c7 : W2.cell? ⟨w.heap.size, 7, none⟩ = some (.slice B.p B.n B.c) := by rw [hR0.cell?]; rfl
  have c32 : W2.cell? ⟨w.heap.size, 32, none⟩ = some (.int .i64 els) := by rw [hR0.cell?]; rfl
  have Hhx := Lib.hid hx
  have Hhy := Lib.hid hy
  have Hhz := Lib.hid hz
  have Hhyz := Lib.hid hyz
  have Hhe := Lib.hid he
  have Hhb := Lib.hid hb
  have hlt2 : w.heap.size < W2.heap.size := hR0.lt
  clear hR0 hx hy hz hyz he hb
  have he1 : decide (els < -1) = false := by have := Hhe.out; simp; omega
  have he2 : ¬ els < -1 := by have := Hhe.out; omega
  go_wp2_with fail
  refine (dSource W2 x).mono ?_
  rintro e0 W2 ⟨rfl, rfl⟩
  rw [show (decide ((0 : Int) ≤ x) && decide ((x : Int) ≤ 11)) = true by simp; exact Hhx.out]
  go_wp2_with fail
  refine (dIn W2 0 0 3).mono ?_
  rintro e0 W2 ⟨rfl, rfl⟩
  rw [show (decide ((0 : Int) ≤ 0) && decide ((0 : Int) ≤ 3)) = true from rfl]
  go_wp2_with fail
  have d7 : (W2.alloc (.cells #[.int .i64 y, .int .i64 z] 3)).cell? ⟨w.heap.size, 7, none⟩ = some (.slice B.p B.n B.c) := (((Below.refl W2.heap.size W2).alloc (Nat.le_refl _) (.cells #[.int .i64 y, .int .i64 z] 3)).cell (p := ⟨w.heap.size, 7, none⟩) hlt2).trans c7
  have hRl : Row iV (W2.alloc (.cells #[.int .i64 y, .int .i64 z] 3)) W2.heap.size 3 [y, z] := Row.new _ _ rfl
  replace hB2 := hB2.alloc hB2.size (.cells #[.int .i64 y, .int .i64 z] 3)
  refine (dTargets _ _ [y, z] (.inr ⟨_, 0, 2, rfl, by simp, hRl.at, hRl.lt⟩) (by simp) (by intro v hv; simp only [List.mem_cons, List.not_mem_nil, or_false] at hv; rcases hv with rfl | rfl; exact Hhy.out; exact Hhz.out) (by simp; exact Hhyz.out)).mono ?_
  rintro e0 W3 ⟨rfl, hW3⟩
  rw [← hW3] at hB2 d7
  clear hRl hW3
  go_wp2_with fail
  refine (dIn W3 (B.n : Int) 1 8).mono ?_
  rintro e0 W3 ⟨rfl, rfl⟩
  rw [show (decide ((1 : Int) ≤ (B.n : Int)) && decide (((B.n : Int) : Int) ≤ 8)) = true by simp; exact (by have := Hhb.out; omega)]
  go_wp2_with fail
  go_ret
  exact ⟨rfl, hB2⟩
end Go.Proofs.YtllomcmhkocdfaaGreatDoor

/- dialect.fields at valid operations, trims, numbers, matches. -/
namespace Go.Proofs.YtllomcmhkocdfaaGreatDoor
open Go.RowKit Mem
set_option maxRecDepth 100000

set_option maxHeartbeats 8000000 in
theorem dFields_7 (w : World) (x : Int) (y : Int) (k0 : Int) (k1 : Int) (k2 : Int) (k3 : Int) (hx : 0 ≤ x ∧ x ≤ 11) (hy : 1 ≤ y ∧ y ≤ 11) (C : Array Value) (HC : Hid (C = ((stTrim x y k0 k1 k2 k3).cs.map oV).toArray)) :
    Calls Tryz.prog 59 #[.agg C] w fun e w' => e = .returned (.bool true) ∧ Below w.heap.size w w' := by
  have hR0 : Row oV (w.alloc (.cells C 45)) w.heap.size 45 (stTrim x y k0 k1 k2 k3).cs := Row.new w _ (by rw [HC.out])
  have hB0 : Below w.heap.size w (w.alloc (.cells C 45)) := (Below.refl _ _).alloc (Nat.le_refl _) _
  go_enter Tryz.func59, Tryz.ntmps59
  go_wp2_with ((with_reducible refine load_agg (f := oV) (l := (stTrim x y k0 k1 k2 k3).cs) (aggSt _) (.tmp 1) ?_ ?_ w.heap.size 0 ?_ hR0.at HC.out ?_); rfl; rfl; rfl)
  refine (dBare _ (stTrim x y k0 k1 k2 k3) (restOk_7 _ _ _ _ _ _ ) C HC).mono ?_
  rintro e0 W2 ⟨rfl, hB2⟩
  replace hR0 := hR0.below hB2 hR0.lt
  replace hB2 := hB0.trans (hB2.mono hB0.size)
  clear hB0
  have c0 : W2.cell? ⟨w.heap.size, 0, none⟩ = some (.int .i64 7) := by rw [hR0.cell?]; rfl
  have c1 : W2.cell? ⟨w.heap.size, 1, none⟩ = some (.int .i64 x) := by rw [hR0.cell?]; rfl
  have c2 : W2.cell? ⟨w.heap.size, 2, none⟩ = some (.int .i64 y) := by rw [hR0.cell?]; rfl
  have c4 : W2.cell? ⟨w.heap.size, 4, none⟩ = some (.int .i64 0) := by rw [hR0.cell?]; rfl
  have c32 : W2.cell? ⟨w.heap.size, 32, none⟩ = some (.int .i64 (-1)) := by rw [hR0.cell?]; rfl
  have Hhx := Lib.hid hx
  have Hhy := Lib.hid hy
  have hlt2 : w.heap.size < W2.heap.size := hR0.lt
  clear hR0 hx hy
  go_wp2_with fail
  refine (dSource W2 x).mono ?_
  rintro e0 W2 ⟨rfl, rfl⟩
  rw [show (decide ((0 : Int) ≤ x) && decide ((x : Int) ≤ 11)) = true by simp; exact Hhx.out]
  go_wp2_with fail
  refine (dIn W2 0 0 3).mono ?_
  rintro e0 W2 ⟨rfl, rfl⟩
  rw [show (decide ((0 : Int) ≤ 0) && decide ((0 : Int) ≤ 3)) = true from rfl]
  go_wp2_with fail
  have hRl : Row iV (W2.alloc (.cells #[.int .i64 y] 3)) W2.heap.size 3 [y] := Row.new _ _ rfl
  replace hB2 := hB2.alloc hB2.size (.cells #[.int .i64 y] 3)
  refine (dTargets _ _ [y] (.inr ⟨_, 0, 1, rfl, by simp, hRl.at, hRl.lt⟩) (by simp) (by intro v hv; rw [List.mem_singleton] at hv; subst hv; exact Hhy.out) (by simp)).mono ?_
  rintro e0 W3 ⟨rfl, hW3⟩
  rw [← hW3] at hB2
  clear hRl hW3
  go_wp2_with fail
  go_ret
  exact ⟨rfl, hB2⟩
end Go.Proofs.YtllomcmhkocdfaaGreatDoor

/- dialect.fields at valid tests. -/
namespace Go.Proofs.YtllomcmhkocdfaaGreatDoor
open Go.RowKit Mem
set_option maxRecDepth 100000

end Go.Proofs.YtllomcmhkocdfaaGreatDoor

/- dialect.fields at valid loops, breaks, fields, ends. -/
namespace Go.Proofs.YtllomcmhkocdfaaGreatDoor
open Go.RowKit Mem
set_option maxRecDepth 100000

set_option maxHeartbeats 8000000 in
theorem dFields_11 (w : World) (i : Int) (j : Int) (thn : Int) (ht : 0 ≤ thn) (hi : 1 ≤ i ∧ i ≤ 8) (hj : 0 ≤ j ∧ j ≤ 999) (C : Array Value) (HC : Hid (C = ((stLoop i j thn).cs.map oV).toArray)) :
    Calls Tryz.prog 59 #[.agg C] w fun e w' => e = .returned (.bool true) ∧ Below w.heap.size w w' := by
  have hR0 : Row oV (w.alloc (.cells C 45)) w.heap.size 45 (stLoop i j thn).cs := Row.new w _ (by rw [HC.out])
  have hB0 : Below w.heap.size w (w.alloc (.cells C 45)) := (Below.refl _ _).alloc (Nat.le_refl _) _
  go_enter Tryz.func59, Tryz.ntmps59
  go_wp2_with ((with_reducible refine load_agg (f := oV) (l := (stLoop i j thn).cs) (aggSt _) (.tmp 1) ?_ ?_ w.heap.size 0 ?_ hR0.at HC.out ?_); rfl; rfl; rfl)
  refine (dBare _ (stLoop i j thn) (restOk_11 _ _ _ ) C HC).mono ?_
  rintro e0 W2 ⟨rfl, hB2⟩
  replace hR0 := hR0.below hB2 hR0.lt
  replace hB2 := hB0.trans (hB2.mono hB0.size)
  clear hB0
  have c0 : W2.cell? ⟨w.heap.size, 0, none⟩ = some (.int .i64 11) := by rw [hR0.cell?]; rfl
  have c1 : W2.cell? ⟨w.heap.size, 1, none⟩ = some (.int .i64 0) := by rw [hR0.cell?]; rfl
  have c4 : W2.cell? ⟨w.heap.size, 4, none⟩ = some (.int .i64 0) := by rw [hR0.cell?]; rfl
  have c5 : W2.cell? ⟨w.heap.size, 5, none⟩ = some (.int .i64 i) := by rw [hR0.cell?]; rfl
  have c6 : W2.cell? ⟨w.heap.size, 6, none⟩ = some (.int .i64 j) := by rw [hR0.cell?]; rfl
  have c31 : W2.cell? ⟨w.heap.size, 31, none⟩ = some (.int .i64 thn) := by rw [hR0.cell?]; rfl
  have c32 : W2.cell? ⟨w.heap.size, 32, none⟩ = some (.int .i64 (-1)) := by rw [hR0.cell?]; rfl
  have Hht := Lib.hid ht
  have Hhi := Lib.hid hi
  have Hhj := Lib.hid hj
  have hlt2 : w.heap.size < W2.heap.size := hR0.lt
  clear hR0 ht hi hj
  have ht1 : decide (0 ≤ thn) = true := by have := Hht.out; simp; omega
  have ht2 : 0 ≤ thn := Hht.out
  go_wp2_with fail
  refine (dSource W2 0).mono ?_
  rintro e0 W2 ⟨rfl, rfl⟩
  rw [show (decide ((0 : Int) ≤ 0) && decide ((0 : Int) ≤ 11)) = true from rfl]
  go_wp2_with fail
  refine (dIn W2 0 0 3).mono ?_
  rintro e0 W2 ⟨rfl, rfl⟩
  rw [show (decide ((0 : Int) ≤ 0) && decide ((0 : Int) ≤ 3)) = true from rfl]
  go_wp2_with fail
  refine (dIn W2 i 1 8).mono ?_
  rintro e0 W2 ⟨rfl, rfl⟩
  rw [show (decide ((1 : Int) ≤ i) && decide ((i : Int) ≤ 8)) = true by simp; exact Hhi.out]
  go_wp2_with fail
  refine (dIn W2 j 0 999).mono ?_
  rintro e0 W2 ⟨rfl, rfl⟩
  rw [show (decide ((0 : Int) ≤ j) && decide ((j : Int) ≤ 999)) = true by simp; exact Hhj.out]
  go_wp2_with fail
  go_ret
  exact ⟨rfl, hB2⟩
set_option maxHeartbeats 8000000 in
theorem dFields_12 (w : World) (C : Array Value) (HC : Hid (C = (stBreak.cs.map oV).toArray)) :
    Calls Tryz.prog 59 #[.agg C] w fun e w' => e = .returned (.bool true) ∧ Below w.heap.size w w' := by
  have hR0 : Row oV (w.alloc (.cells C 45)) w.heap.size 45 stBreak.cs := Row.new w _ (by rw [HC.out])
  have hB0 : Below w.heap.size w (w.alloc (.cells C 45)) := (Below.refl _ _).alloc (Nat.le_refl _) _
  go_enter Tryz.func59, Tryz.ntmps59
  go_wp2_with ((with_reducible refine load_agg (f := oV) (l := stBreak.cs) (aggSt _) (.tmp 1) ?_ ?_ w.heap.size 0 ?_ hR0.at HC.out ?_); rfl; rfl; rfl)
  refine (dBare _ stBreak (restOk_12 ) C HC).mono ?_
  rintro e0 W2 ⟨rfl, hB2⟩
  replace hR0 := hR0.below hB2 hR0.lt
  replace hB2 := hB0.trans (hB2.mono hB0.size)
  clear hB0
  have c0 : W2.cell? ⟨w.heap.size, 0, none⟩ = some (.int .i64 12) := by rw [hR0.cell?]; rfl
  have c1 : W2.cell? ⟨w.heap.size, 1, none⟩ = some (.int .i64 0) := by rw [hR0.cell?]; rfl
  have c4 : W2.cell? ⟨w.heap.size, 4, none⟩ = some (.int .i64 0) := by rw [hR0.cell?]; rfl
  have c32 : W2.cell? ⟨w.heap.size, 32, none⟩ = some (.int .i64 (-1)) := by rw [hR0.cell?]; rfl
  have hlt2 : w.heap.size < W2.heap.size := hR0.lt
  clear hR0 
  go_wp2_with fail
  refine (dSource W2 0).mono ?_
  rintro e0 W2 ⟨rfl, rfl⟩
  rw [show (decide ((0 : Int) ≤ 0) && decide ((0 : Int) ≤ 11)) = true from rfl]
  go_wp2_with fail
  refine (dIn W2 0 0 3).mono ?_
  rintro e0 W2 ⟨rfl, rfl⟩
  rw [show (decide ((0 : Int) ≤ 0) && decide ((0 : Int) ≤ 3)) = true from rfl]
  go_wp2_with fail
  go_ret
  exact ⟨rfl, hB2⟩
set_option maxHeartbeats 8000000 in
theorem dFields_13 (w : World) (x : Int) (nm : ByteArray) (hx : 0 ≤ x ∧ x ≤ 11) (HN : Hid (NameOK nm)) (C : Array Value) (HC : Hid (C = ((stField x nm).cs.map oV).toArray)) :
    Calls Tryz.prog 59 #[.agg C] w fun e w' => e = .returned (.bool true) ∧ Below w.heap.size w w' := by
  have hR0 : Row oV (w.alloc (.cells C 45)) w.heap.size 45 (stField x nm).cs := Row.new w _ (by rw [HC.out])
  have hB0 : Below w.heap.size w (w.alloc (.cells C 45)) := (Below.refl _ _).alloc (Nat.le_refl _) _
  go_enter Tryz.func59, Tryz.ntmps59
  go_wp2_with ((with_reducible refine load_agg (f := oV) (l := (stField x nm).cs) (aggSt _) (.tmp 1) ?_ ?_ w.heap.size 0 ?_ hR0.at HC.out ?_); rfl; rfl; rfl)
  refine (dBare _ (stField x nm) (restOk_13 _ _ ) C HC).mono ?_
  rintro e0 W2 ⟨rfl, hB2⟩
  replace hR0 := hR0.below hB2 hR0.lt
  replace hB2 := hB0.trans (hB2.mono hB0.size)
  clear hB0
  have c0 : W2.cell? ⟨w.heap.size, 0, none⟩ = some (.int .i64 13) := by rw [hR0.cell?]; rfl
  have c1 : W2.cell? ⟨w.heap.size, 1, none⟩ = some (.int .i64 x) := by rw [hR0.cell?]; rfl
  have c4 : W2.cell? ⟨w.heap.size, 4, none⟩ = some (.int .i64 0) := by rw [hR0.cell?]; rfl
  have c30 : W2.cell? ⟨w.heap.size, 30, none⟩ = some (.string nm) := by rw [hR0.cell?]; rfl
  have c32 : W2.cell? ⟨w.heap.size, 32, none⟩ = some (.int .i64 (-1)) := by rw [hR0.cell?]; rfl
  have Hhx := Lib.hid hx
  have hlt2 : w.heap.size < W2.heap.size := hR0.lt
  clear hR0 hx
  go_wp2_with fail
  refine (dSource W2 x).mono ?_
  rintro e0 W2 ⟨rfl, rfl⟩
  rw [show (decide ((0 : Int) ≤ x) && decide ((x : Int) ≤ 11)) = true by simp; exact Hhx.out]
  go_wp2_with fail
  refine (dIn W2 0 0 3).mono ?_
  rintro e0 W2 ⟨rfl, rfl⟩
  rw [show (decide ((0 : Int) ≤ 0) && decide ((0 : Int) ≤ 3)) = true from rfl]
  go_wp2_with fail
  refine (dName W2 nm (Lib.hid HN.out.all) HN.out.one HN.out.eight).mono ?_
  rintro e0 W3 ⟨rfl, hB3⟩
  replace hB2 := hB2.trans (hB3.mono hB2.size)
  go_wp2_with fail
  go_ret
  exact ⟨rfl, hB2⟩
set_option maxHeartbeats 8000000 in
theorem dFields_14 (w : World) (i : Int) (hi : 0 ≤ i ∧ i ≤ 999) (C : Array Value) (HC : Hid (C = ((stReject i).cs.map oV).toArray)) :
    Calls Tryz.prog 59 #[.agg C] w fun e w' => e = .returned (.bool true) ∧ Below w.heap.size w w' := by
  have hR0 : Row oV (w.alloc (.cells C 45)) w.heap.size 45 (stReject i).cs := Row.new w _ (by rw [HC.out])
  have hB0 : Below w.heap.size w (w.alloc (.cells C 45)) := (Below.refl _ _).alloc (Nat.le_refl _) _
  go_enter Tryz.func59, Tryz.ntmps59
  go_wp2_with ((with_reducible refine load_agg (f := oV) (l := (stReject i).cs) (aggSt _) (.tmp 1) ?_ ?_ w.heap.size 0 ?_ hR0.at HC.out ?_); rfl; rfl; rfl)
  refine (dBare _ (stReject i) (restOk_14 _ ) C HC).mono ?_
  rintro e0 W2 ⟨rfl, hB2⟩
  replace hR0 := hR0.below hB2 hR0.lt
  replace hB2 := hB0.trans (hB2.mono hB0.size)
  clear hB0
  have c0 : W2.cell? ⟨w.heap.size, 0, none⟩ = some (.int .i64 14) := by rw [hR0.cell?]; rfl
  have c1 : W2.cell? ⟨w.heap.size, 1, none⟩ = some (.int .i64 0) := by rw [hR0.cell?]; rfl
  have c4 : W2.cell? ⟨w.heap.size, 4, none⟩ = some (.int .i64 0) := by rw [hR0.cell?]; rfl
  have c5 : W2.cell? ⟨w.heap.size, 5, none⟩ = some (.int .i64 i) := by rw [hR0.cell?]; rfl
  have c32 : W2.cell? ⟨w.heap.size, 32, none⟩ = some (.int .i64 (-1)) := by rw [hR0.cell?]; rfl
  have Hhi := Lib.hid hi
  have hlt2 : w.heap.size < W2.heap.size := hR0.lt
  clear hR0 hi
  go_wp2_with fail
  refine (dSource W2 0).mono ?_
  rintro e0 W2 ⟨rfl, rfl⟩
  rw [show (decide ((0 : Int) ≤ 0) && decide ((0 : Int) ≤ 11)) = true from rfl]
  go_wp2_with fail
  refine (dIn W2 0 0 3).mono ?_
  rintro e0 W2 ⟨rfl, rfl⟩
  rw [show (decide ((0 : Int) ≤ 0) && decide ((0 : Int) ≤ 3)) = true from rfl]
  go_wp2_with fail
  refine (dIn W2 i 0 999).mono ?_
  rintro e0 W2 ⟨rfl, rfl⟩
  rw [show (decide ((0 : Int) ≤ i) && decide ((i : Int) ≤ 999)) = true by simp; exact Hhi.out]
  go_wp2_with fail
  go_ret
  exact ⟨rfl, hB2⟩
end Go.Proofs.YtllomcmhkocdfaaGreatDoor

/- dialect.check at valid statements. -/
namespace Go.Proofs.YtllomcmhkocdfaaGreatDoor
open Go.RowKit Mem
set_option maxRecDepth 100000

/-- dialect.check finds no fault in the statement -/
def ChkOk (s : St) : Prop := ∀ (W : World) (C : Array Value), StD W s → Hid (C = (s.cs.map oV).toArray) → Calls Tryz.prog 44 #[.agg C] W fun e w' => e = .returned (.int .i64 0) ∧ Below W.heap.size W w'

set_option maxHeartbeats 8000000 in
theorem chkOk_1 (x : Int) (y : Int) (hx : 0 ≤ x ∧ x ≤ 11) (hy : 1 ≤ y ∧ y ≤ 11) : ChkOk (stCopy x y) := by
  intro w C hD HC
  have hR0 : Row oV (w.alloc (.cells C 45)) w.heap.size 45 (stCopy x y).cs := Row.new w _ (by rw [HC.out])
  have hB0 : Below w.heap.size w (w.alloc (.cells C 45)) := (Below.refl _ _).alloc (Nat.le_refl _) _
  go_enter Tryz.func44, Tryz.ntmps44
  go_wp2_with ((with_reducible refine load_agg (f := oV) (l := (stCopy x y).cs) (aggSt _) (.tmp 1) ?_ ?_ w.heap.size 0 ?_ hR0.at HC.out ?_); rfl; rfl; rfl)
  refine (dFields_1 _ x y hx hy C HC).mono ?_
  rintro e0 W2 ⟨rfl, hB2⟩
  replace hR0 := hR0.below hB2 hR0.lt
  replace hB2 := hB0.trans (hB2.mono hB0.size)
  clear hB0 hD
  have c0 : W2.cell? ⟨w.heap.size, 0, none⟩ = some (.int .i64 1) := by rw [hR0.cell?]; rfl
  clear hR0 hx hy
  go_wp2_with fail
  go_ret
  exact ⟨rfl, hB2⟩
set_option maxHeartbeats 8000000 in
theorem chkOk_3 (x : Int) (y : Int) (z : Int) (B : Sl) (la : Bool) (els : Int) (lb : List UInt8) (hx : 0 ≤ x ∧ x ≤ 11) (hy : 1 ≤ y ∧ y ≤ 11) (hz : 1 ≤ z ∧ z ≤ 11) (hyz : y ≠ z) (he : -1 ≤ els) (hb : 1 ≤ B.n ∧ B.n ≤ 8) : ChkOk (stSplit x y z B la els lb) := by
  intro w C hD HC
  have hR0 : Row oV (w.alloc (.cells C 45)) w.heap.size 45 (stSplit x y z B la els lb).cs := Row.new w _ (by rw [HC.out])
  have hB0 : Below w.heap.size w (w.alloc (.cells C 45)) := (Below.refl _ _).alloc (Nat.le_refl _) _
  go_enter Tryz.func44, Tryz.ntmps44
  go_wp2_with ((with_reducible refine load_agg (f := oV) (l := (stSplit x y z B la els lb).cs) (aggSt _) (.tmp 1) ?_ ?_ w.heap.size 0 ?_ hR0.at HC.out ?_); rfl; rfl; rfl)
  refine (dFields_3 _ x y z B la els lb hx hy hz hyz he hb C HC).mono ?_
  rintro e0 W2 ⟨rfl, hB2⟩
  replace hR0 := hR0.below hB2 hR0.lt
  replace hB2 := hB0.trans (hB2.mono hB0.size)
  clear hB0 hD
  have c0 : W2.cell? ⟨w.heap.size, 0, none⟩ = some (.int .i64 3) := by rw [hR0.cell?]; rfl
  clear hR0 hx hy hz hyz he hb
  go_wp2_with fail
  go_ret
  exact ⟨rfl, hB2⟩
set_option maxHeartbeats 8000000 in
theorem chkOk_7 (x : Int) (y : Int) (k0 : Int) (k1 : Int) (k2 : Int) (k3 : Int) (hx : 0 ≤ x ∧ x ≤ 11) (hy : 1 ≤ y ∧ y ≤ 11) : ChkOk (stTrim x y k0 k1 k2 k3) := by
  intro w C hD HC
  have hR0 : Row oV (w.alloc (.cells C 45)) w.heap.size 45 (stTrim x y k0 k1 k2 k3).cs := Row.new w _ (by rw [HC.out])
  have hB0 : Below w.heap.size w (w.alloc (.cells C 45)) := (Below.refl _ _).alloc (Nat.le_refl _) _
  go_enter Tryz.func44, Tryz.ntmps44
  go_wp2_with ((with_reducible refine load_agg (f := oV) (l := (stTrim x y k0 k1 k2 k3).cs) (aggSt _) (.tmp 1) ?_ ?_ w.heap.size 0 ?_ hR0.at HC.out ?_); rfl; rfl; rfl)
  refine (dFields_7 _ x y k0 k1 k2 k3 hx hy C HC).mono ?_
  rintro e0 W2 ⟨rfl, hB2⟩
  replace hR0 := hR0.below hB2 hR0.lt
  replace hB2 := hB0.trans (hB2.mono hB0.size)
  clear hB0 hD
  have c0 : W2.cell? ⟨w.heap.size, 0, none⟩ = some (.int .i64 7) := by rw [hR0.cell?]; rfl
  clear hR0 hx hy
  go_wp2_with fail
  go_ret
  exact ⟨rfl, hB2⟩
set_option maxHeartbeats 8000000 in
theorem chkOk_11 (i : Int) (j : Int) (thn : Int) (ht : 0 ≤ thn) (hi : 1 ≤ i ∧ i ≤ 8) (hj : 0 ≤ j ∧ j ≤ 999) : ChkOk (stLoop i j thn) := by
  intro w C hD HC
  have hR0 : Row oV (w.alloc (.cells C 45)) w.heap.size 45 (stLoop i j thn).cs := Row.new w _ (by rw [HC.out])
  have hB0 : Below w.heap.size w (w.alloc (.cells C 45)) := (Below.refl _ _).alloc (Nat.le_refl _) _
  go_enter Tryz.func44, Tryz.ntmps44
  go_wp2_with ((with_reducible refine load_agg (f := oV) (l := (stLoop i j thn).cs) (aggSt _) (.tmp 1) ?_ ?_ w.heap.size 0 ?_ hR0.at HC.out ?_); rfl; rfl; rfl)
  refine (dFields_11 _ i j thn ht hi hj C HC).mono ?_
  rintro e0 W2 ⟨rfl, hB2⟩
  replace hR0 := hR0.below hB2 hR0.lt
  replace hB2 := hB0.trans (hB2.mono hB0.size)
  clear hB0 hD
  have c0 : W2.cell? ⟨w.heap.size, 0, none⟩ = some (.int .i64 11) := by rw [hR0.cell?]; rfl
  clear hR0 ht hi hj
  go_wp2_with fail
  go_ret
  exact ⟨rfl, hB2⟩
set_option maxHeartbeats 8000000 in
theorem chkOk_12 : ChkOk stBreak := by
  intro w C hD HC
  have hR0 : Row oV (w.alloc (.cells C 45)) w.heap.size 45 stBreak.cs := Row.new w _ (by rw [HC.out])
  have hB0 : Below w.heap.size w (w.alloc (.cells C 45)) := (Below.refl _ _).alloc (Nat.le_refl _) _
  go_enter Tryz.func44, Tryz.ntmps44
  go_wp2_with ((with_reducible refine load_agg (f := oV) (l := stBreak.cs) (aggSt _) (.tmp 1) ?_ ?_ w.heap.size 0 ?_ hR0.at HC.out ?_); rfl; rfl; rfl)
  refine (dFields_12 _  C HC).mono ?_
  rintro e0 W2 ⟨rfl, hB2⟩
  replace hR0 := hR0.below hB2 hR0.lt
  replace hB2 := hB0.trans (hB2.mono hB0.size)
  clear hB0 hD
  have c0 : W2.cell? ⟨w.heap.size, 0, none⟩ = some (.int .i64 12) := by rw [hR0.cell?]; rfl
  clear hR0 
  go_wp2_with fail
  go_ret
  exact ⟨rfl, hB2⟩
set_option maxHeartbeats 8000000 in
theorem chkOk_13 (x : Int) (nm : ByteArray) (hx : 0 ≤ x ∧ x ≤ 11) (HN : Hid (NameOK nm)) : ChkOk (stField x nm) := by
  intro w C hD HC
  have hR0 : Row oV (w.alloc (.cells C 45)) w.heap.size 45 (stField x nm).cs := Row.new w _ (by rw [HC.out])
  have hB0 : Below w.heap.size w (w.alloc (.cells C 45)) := (Below.refl _ _).alloc (Nat.le_refl _) _
  go_enter Tryz.func44, Tryz.ntmps44
  go_wp2_with ((with_reducible refine load_agg (f := oV) (l := (stField x nm).cs) (aggSt _) (.tmp 1) ?_ ?_ w.heap.size 0 ?_ hR0.at HC.out ?_); rfl; rfl; rfl)
  refine (dFields_13 _ x nm hx HN C HC).mono ?_
  rintro e0 W2 ⟨rfl, hB2⟩
  replace hR0 := hR0.below hB2 hR0.lt
  replace hB2 := hB0.trans (hB2.mono hB0.size)
  clear hB0 hD
  have c0 : W2.cell? ⟨w.heap.size, 0, none⟩ = some (.int .i64 13) := by rw [hR0.cell?]; rfl
  clear hR0 hx
  go_wp2_with fail
  go_ret
  exact ⟨rfl, hB2⟩
set_option maxHeartbeats 8000000 in
theorem chkOk_14 (i : Int) (hi : 0 ≤ i ∧ i ≤ 999) : ChkOk (stReject i) := by
  intro w C hD HC
  have hR0 : Row oV (w.alloc (.cells C 45)) w.heap.size 45 (stReject i).cs := Row.new w _ (by rw [HC.out])
  have hB0 : Below w.heap.size w (w.alloc (.cells C 45)) := (Below.refl _ _).alloc (Nat.le_refl _) _
  go_enter Tryz.func44, Tryz.ntmps44
  go_wp2_with ((with_reducible refine load_agg (f := oV) (l := (stReject i).cs) (aggSt _) (.tmp 1) ?_ ?_ w.heap.size 0 ?_ hR0.at HC.out ?_); rfl; rfl; rfl)
  refine (dFields_14 _ i hi C HC).mono ?_
  rintro e0 W2 ⟨rfl, hB2⟩
  replace hR0 := hR0.below hB2 hR0.lt
  replace hB2 := hB0.trans (hB2.mono hB0.size)
  clear hB0 hD
  have c0 : W2.cell? ⟨w.heap.size, 0, none⟩ = some (.int .i64 14) := by rw [hR0.cell?]; rfl
  clear hR0 hi
  go_wp2_with fail
  go_ret
  exact ⟨rfl, hB2⟩
end Go.Proofs.YtllomcmhkocdfaaGreatDoor
