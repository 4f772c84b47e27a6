/- The bound of a program of one statement that appends a field. -/
import Derived.Test.YtllomcmhkocdfaaGreatDoorMHeldD
import Derived.Test.YtllomcmhkocdfaaGreatDoorMTree
import Derived.Test.YtllomcmhkocdfaaGreatDoorMCells
import Derived.Deep.DeepCutAuto
import Derived.Test.YtllomcmhkocdfaaGreatDoorMDial
namespace Go.Proofs.YtllomcmhkocdfaaGreatDoor
open Go.RowKit Mem
set_option maxRecDepth 100000

theorem rBoundNeg (w : World) (a b : Value) : Calls Tryz.prog 25 #[.agg #[a, b], .int .i64 (-1)] w fun e w' => e = .returned (.int .i64 0) ∧ Below w.heap.size w w' := by
  have hB0 : Below w.heap.size w (w.alloc (.cells #[a, b] 28)) := (Below.refl _ _).alloc (Nat.le_refl _) _
  go_enter Tryz.func25, Tryz.ntmps25
  go_wp2
  go_ret
  exact ⟨rfl, hB0⟩

end Go.Proofs.YtllomcmhkocdfaaGreatDoor

/- Sets of variables of a program. -/
namespace Go.Proofs.YtllomcmhkocdfaaGreatDoor
open Go.RowKit Mem
set_option maxRecDepth 100000

theorem bV_one (x : Bool) : (Value.bool x).oneCell' = true := rfl
theorem aggVars : AggT Tryz.prog 89 16 := ⟨fun _ => by kernel_rfl, fun _ => by kernel_rfl⟩
abbrev zVars : List Bool := [false, false, false, false, false, false, false, false, false, false, false, false, false, false, false, false]
abbrev zVarsC : Array Value := #[.bool false, .bool false, .bool false, .bool false, .bool false, .bool false, .bool false, .bool false, .bool false, .bool false, .bool false, .bool false, .bool false, .bool false, .bool false, .bool false]
theorem aggVarsL (l : List Bool) (h : l.length = 16) : AggT Tryz.prog 89 l.length := by rw [h]; exact aggVars

def orStep (l1 l2 : List Bool) (k : Nat) : List Bool := (List.zipWith (· || ·) l1 l2).take k ++ l1.drop k
theorem orStep_len (l1 l2 : List Bool) (h : l1.length = l2.length) (k : Nat) (hk : k ≤ l1.length) : (orStep l1 l2 k).length = l1.length := by simp [orStep]; omega
theorem orStep_at (l1 l2 : List Bool) (h : l1.length = l2.length) (k : Nat) (hk : k < l1.length) : (orStep l1 l2 k)[k]? = some l1[k] := by
  unfold orStep
  rw [List.getElem?_append_right (by simp; omega)]
  simp [List.getElem?_drop, hk, ← h, Nat.min_eq_left (Nat.le_of_lt hk)]
theorem orStep_succ (l1 l2 : List Bool) (h : l1.length = l2.length) (k : Nat) (hk : k < l1.length) : (orStep l1 l2 k).set k (l1[k] || l2[k]'(by omega)) = orStep l1 l2 (k + 1) := by
  apply List.ext_getElem?
  intro i
  rw [List.getElem?_set]
  by_cases hi : k = i
  · subst hi
    rw [if_pos rfl, if_pos (by rw [orStep_len _ _ h _ (by omega)]; exact hk)]
    unfold orStep
    rw [List.getElem?_append_left (by simp; omega), List.getElem?_take_of_lt (by omega), List.getElem?_zipWith, List.getElem?_eq_getElem hk, List.getElem?_eq_getElem (by omega)]
  · rw [if_neg hi]
    unfold orStep
    by_cases hlt : i < k
    · rw [List.getElem?_append_left (by simp; omega), List.getElem?_append_left (by simp; omega), List.getElem?_take_of_lt hlt, List.getElem?_take_of_lt (by omega)]
    · rw [List.getElem?_append_right (by simp; omega), List.getElem?_append_right (by simp; omega)]
      simp [List.getElem?_drop, ← h]
      congr 1
      omega

set_option maxHeartbeats 4000000 in
theorem rOr (w : World) (l1 l2 : List Bool) (h1 : l1.length = 16) (h2 : l2.length = 16) (C1 C2 : Array Value) (HC1 : Hid (C1 = (l1.map Value.bool).toArray)) (HC2 : Hid (C2 = (l2.map Value.bool).toArray)) :
    Calls Tryz.prog 29 #[.agg C1, .agg C2] w fun e w' => ∃ C, e = .returned (.agg C) ∧ Hid (C = ((List.zipWith (· || ·) l1 l2).map Value.bool).toArray) ∧ Below w.heap.size w w' := by
  have HL := Lib.hid (And.intro h1 h2)
  have hlz : (List.zipWith (· || ·) l1 l2).length = 16 := by simp [h1, h2]
  have HLZ := Lib.hid hlz
  clear hlz
  go_enter Tryz.func29, Tryz.ntmps29
  go_wp2_with fail
  obtain ⟨W, hW, hR, hQ, hZ, hB⟩ : ∃ W, ((w.alloc (.cells C1 89)).alloc (.cells C2 89)).alloc (.cells zVarsC 89) = W ∧ Row Value.bool W w.heap.size 89 l1 ∧ Row Value.bool W (w.heap.size + 1) 89 l2 ∧ Row Value.bool W (w.heap.size + 1 + 1) 89 zVars ∧ Below w.heap.size w W := by
    refine ⟨_, rfl, Row.alloc (Row.alloc (Row.new (f := Value.bool) (l := l1) w _ (by rw [HC1.out])) _) _, Row.alloc (heap_new' _ _ _ (by simp) |>.trans (by rw [HC2.out])) _, heap_new' _ _ _ (by simp), (((Below.refl _ _).alloc (Nat.le_refl _) _).alloc (by simp) _).alloc (by simp; omega) _⟩
  rw [hW]
  clear hW h1 h2
  go_loopw [6] (fun i wr => ∃ (k : Nat), k ≤ 16 ∧ i = .int .i64 k ∧ Row Value.bool wr w.heap.size 89 (orStep l1 l2 k) ∧ Row Value.bool wr (w.heap.size + 1) 89 l2 ∧ Row Value.bool wr (w.heap.size + 1 + 1) 89 zVars ∧ Below w.heap.size w wr) (fun i _ => 16 - (intOf i).toNat)
  case atStart => exact ⟨0, by omega, rfl, by simpa [orStep] using hR, hQ, hZ, hB⟩
  case round =>
    clear hR hQ hZ hB
    obtain ⟨k, hk, rfl, hR, hQ, hZ, hB⟩ := hrel
    by_cases hlt : k < 16
    · have hq : (k : Int) < 16 := by omega
      have c1 : wr.cell? ⟨w.heap.size, k, none⟩ = some (.bool (l1[k]'(by rw [HL.out.1]; exact hlt))) := by rw [hR.cell?, orStep_at _ _ (HL.out.1.trans HL.out.2.symm) k (by rw [HL.out.1]; exact hlt)]; rfl
      have c2 : wr.cell? ⟨w.heap.size + 1, k, none⟩ = some (.bool (l2[k]'(by rw [HL.out.2]; exact hlt))) := by rw [hQ.cell?, List.getElem?_eq_getElem (by rw [HL.out.2]; exact hlt)]; rfl
      have HS := Lib.hid (orStep_succ l1 l2 (HL.out.1.trans HL.out.2.symm) k (by rw [HL.out.1]; exact hlt))
      have fk := hR.frozen k
      have HX := Lib.hid (And.intro hR (And.intro hQ (And.intro hZ hB)))
      clear hR hQ hZ hB
      generalize l1[k]'_ = x at c1 HS
      generalize l2[k]'_ = y at c2 HS
      have step : ∀ z, z = (x || y) → Row Value.bool (wr.setCell ⟨w.heap.size, k, none⟩ (.bool z)) w.heap.size 89 (orStep l1 l2 (k + 1)) ∧ Row Value.bool (wr.setCell ⟨w.heap.size, k, none⟩ (.bool z)) (w.heap.size + 1) 89 l2 ∧ Row Value.bool (wr.setCell ⟨w.heap.size, k, none⟩ (.bool z)) (w.heap.size + 1 + 1) 89 zVars ∧ Below w.heap.size w (wr.setCell ⟨w.heap.size, k, none⟩ (.bool z)) := by
        rintro z rfl
        obtain ⟨hR, hQ, hZ, hB⟩ := HX.out
        exact ⟨by have := hR.set k (x || y); rwa [HS.out] at this, hQ.set_other (by omega) k _, hZ.set_other (by omega) k _, below_set hB k (Nat.le_refl _) _⟩
      have HST := Lib.hid step
      clear step
      cases x with
      | true =>
        go_wp2_with fail
        go_roundw
        case rel => exact ⟨k + 1, by omega, by go_num, HST.out true rfl⟩
        case measure => simp [intOf]; omega
      | false =>
        go_wp2_with fail
        go_roundw
        case rel => exact ⟨k + 1, by omega, by go_num, HST.out y rfl⟩
        case measure => simp [intOf]; omega
    · obtain rfl : k = 16 := by omega
      have hR' : Row Value.bool wr w.heap.size 89 (List.zipWith (· || ·) l1 l2) := by
        have e : orStep l1 l2 16 = List.zipWith (· || ·) l1 l2 := by
          unfold orStep
          rw [List.take_of_length_le (by rw [HLZ.out]; omega), List.drop_eq_nil_of_le (by rw [HL.out.1]; omega), List.append_nil]
        rwa [e] at hR
      clear hR
      generalize hlz : List.zipWith (· || ·) l1 l2 = lz at hR' HLZ
      have HE := Lib.hid hlz
      clear hlz
      obtain ⟨C2, HC2⟩ : ∃ C2, Hid (C2 = (lz.map Value.bool).toArray) := ⟨_, Lib.hid rfl⟩
      go_wp2_with (first
        | ((with_reducible refine load_agg (f := Value.bool) (l := lz) (aggVarsL _ HLZ.out) (.tmp 2) ?_ ?_ w.heap.size 0 ?_ hR'.at HC2.out ?_); rfl; rfl; rfl)
        | ((with_reducible refine store_agg (f := Value.bool) (l := zVars) (l' := lz) (t := 89) (C := C2) (aggVarsL _ HLZ.out) (.tmp 4) (.tmp 20) ?_ ?_ (w.heap.size + 1 + 1) ?_ ?_ ?_ hZ ?_ bV_one ?_); rfl; rfl; rfl; exact HC2.out; rfl; exact HLZ.out; intro W5 hs5 hG5 hz5))
      refine bodyPost_ret (results_agg (f := Value.bool) (l := lz) rfl _ (aggVarsL _ HLZ.out) (w.heap.size + 1 + 1) 0 rfl hs5.at) rfl ?_
      exact ⟨_, rfl, Lib.hid (by rw [HE.out]), hB.grown hG5 (Nat.le_of_lt hR'.lt) (fun k e => by cases e; omega)⟩
end Go.Proofs.YtllomcmhkocdfaaGreatDoor

/- Sets of variables: and. -/
namespace Go.Proofs.YtllomcmhkocdfaaGreatDoor
open Go.RowKit Mem
set_option maxRecDepth 100000

def andStep (l1 l2 : List Bool) (k : Nat) : List Bool := (List.zipWith (· && ·) l1 l2).take k ++ l1.drop k
theorem andStep_len (l1 l2 : List Bool) (h : l1.length = l2.length) (k : Nat) (hk : k ≤ l1.length) : (andStep l1 l2 k).length = l1.length := by simp [andStep]; omega
theorem andStep_at (l1 l2 : List Bool) (h : l1.length = l2.length) (k : Nat) (hk : k < l1.length) : (andStep l1 l2 k)[k]? = some l1[k] := by
  unfold andStep
  rw [List.getElem?_append_right (by simp; omega)]
  simp [List.getElem?_drop, hk, ← h, Nat.min_eq_left (Nat.le_of_lt hk)]
theorem andStep_succ (l1 l2 : List Bool) (h : l1.length = l2.length) (k : Nat) (hk : k < l1.length) : (andStep l1 l2 k).set k (l1[k] && l2[k]'(by omega)) = andStep l1 l2 (k + 1) := by
  apply List.ext_getElem?
  intro i
  rw [List.getElem?_set]
  by_cases hi : k = i
  · subst hi
    rw [if_pos rfl, if_pos (by rw [andStep_len _ _ h _ (by omega)]; exact hk)]
    unfold andStep
    rw [List.getElem?_append_left (by simp; omega), List.getElem?_take_of_lt (by omega), List.getElem?_zipWith, List.getElem?_eq_getElem hk, List.getElem?_eq_getElem (by omega)]
  · rw [if_neg hi]
    unfold andStep
    by_cases hlt : i < k
    · rw [List.getElem?_append_left (by simp; omega), List.getElem?_append_left (by simp; omega), List.getElem?_take_of_lt hlt, List.getElem?_take_of_lt (by omega)]
    · rw [List.getElem?_append_right (by simp; omega), List.getElem?_append_right (by simp; omega)]
      simp [List.getElem?_drop, ← h]
      congr 1
      omega

set_option maxHeartbeats 4000000 in
theorem rAnd (w : World) (l1 l2 : List Bool) (h1 : l1.length = 16) (h2 : l2.length = 16) (C1 C2 : Array Value) (HC1 : Hid (C1 = (l1.map Value.bool).toArray)) (HC2 : Hid (C2 = (l2.map Value.bool).toArray)) :
    Calls Tryz.prog 66 #[.agg C1, .agg C2] w fun e w' => ∃ C, e = .returned (.agg C) ∧ Hid (C = ((List.zipWith (· && ·) l1 l2).map Value.bool).toArray) ∧ Below w.heap.size w w' := by
  have HL := Lib.hid (And.intro h1 h2)
  have hlz : (List.zipWith (· && ·) l1 l2).length = 16 := by simp [h1, h2]
  have HLZ := Lib.hid hlz
  clear hlz
  go_enter Tryz.func66, Tryz.ntmps66
  go_wp2_with fail
  obtain ⟨W, hW, hR, hQ, hZ, hB⟩ : ∃ W, ((w.alloc (.cells C1 89)).alloc (.cells C2 89)).alloc (.cells zVarsC 89) = W ∧ Row Value.bool W w.heap.size 89 l1 ∧ Row Value.bool W (w.heap.size + 1) 89 l2 ∧ Row Value.bool W (w.heap.size + 1 + 1) 89 zVars ∧ Below w.heap.size w W := by
    refine ⟨_, rfl, Row.alloc (Row.alloc (Row.new (f := Value.bool) (l := l1) w _ (by rw [HC1.out])) _) _, Row.alloc (heap_new' _ _ _ (by simp) |>.trans (by rw [HC2.out])) _, heap_new' _ _ _ (by simp), (((Below.refl _ _).alloc (Nat.le_refl _) _).alloc (by simp) _).alloc (by simp; omega) _⟩
  rw [hW]
  clear hW h1 h2
  go_loopw [6] (fun i wr => ∃ (k : Nat), k ≤ 16 ∧ i = .int .i64 k ∧ Row Value.bool wr w.heap.size 89 (andStep l1 l2 k) ∧ Row Value.bool wr (w.heap.size + 1) 89 l2 ∧ Row Value.bool wr (w.heap.size + 1 + 1) 89 zVars ∧ Below w.heap.size w wr) (fun i _ => 16 - (intOf i).toNat)
  case atStart => exact ⟨0, by omega, rfl, by simpa [andStep] using hR, hQ, hZ, hB⟩
  case round =>
    clear hR hQ hZ hB
    obtain ⟨k, hk, rfl, hR, hQ, hZ, hB⟩ := hrel
    by_cases hlt : k < 16
    · have hq : (k : Int) < 16 := by omega
      have c1 : wr.cell? ⟨w.heap.size, k, none⟩ = some (.bool (l1[k]'(by rw [HL.out.1]; exact hlt))) := by rw [hR.cell?, andStep_at _ _ (HL.out.1.trans HL.out.2.symm) k (by rw [HL.out.1]; exact hlt)]; rfl
      have c2 : wr.cell? ⟨w.heap.size + 1, k, none⟩ = some (.bool (l2[k]'(by rw [HL.out.2]; exact hlt))) := by rw [hQ.cell?, List.getElem?_eq_getElem (by rw [HL.out.2]; exact hlt)]; rfl
      have HS := Lib.hid (andStep_succ l1 l2 (HL.out.1.trans HL.out.2.symm) k (by rw [HL.out.1]; exact hlt))
      have fk := hR.frozen k
      have HX := Lib.hid (And.intro hR (And.intro hQ (And.intro hZ hB)))
      clear hR hQ hZ hB
      generalize l1[k]'_ = x at c1 HS
      generalize l2[k]'_ = y at c2 HS
      have step : ∀ z, z = (x && y) → Row Value.bool (wr.setCell ⟨w.heap.size, k, none⟩ (.bool z)) w.heap.size 89 (andStep l1 l2 (k + 1)) ∧ Row Value.bool (wr.setCell ⟨w.heap.size, k, none⟩ (.bool z)) (w.heap.size + 1) 89 l2 ∧ Row Value.bool (wr.setCell ⟨w.heap.size, k, none⟩ (.bool z)) (w.heap.size + 1 + 1) 89 zVars ∧ Below w.heap.size w (wr.setCell ⟨w.heap.size, k, none⟩ (.bool z)) := by
        rintro z rfl
        obtain ⟨hR, hQ, hZ, hB⟩ := HX.out
        exact ⟨by have := hR.set k (x && y); rwa [HS.out] at this, hQ.set_other (by omega) k _, hZ.set_other (by omega) k _, below_set hB k (Nat.le_refl _) _⟩
      have HST := Lib.hid step
      clear step
      cases x with
      | true =>
        go_wp2_with fail
        go_roundw
        case rel => exact ⟨k + 1, by omega, by go_num, HST.out y rfl⟩
        case measure => simp [intOf]; omega
      | false =>
        go_wp2_with fail
        go_roundw
        case rel => exact ⟨k + 1, by omega, by go_num, HST.out false rfl⟩
        case measure => simp [intOf]; omega
    · obtain rfl : k = 16 := by omega
      have hR' : Row Value.bool wr w.heap.size 89 (List.zipWith (· && ·) l1 l2) := by
        have e : andStep l1 l2 16 = List.zipWith (· && ·) l1 l2 := by
          unfold andStep
          rw [List.take_of_length_le (by rw [HLZ.out]; omega), List.drop_eq_nil_of_le (by rw [HL.out.1]; omega), List.append_nil]
        rwa [e] at hR
      clear hR
      generalize hlz : List.zipWith (· && ·) l1 l2 = lz at hR' HLZ
      have HE := Lib.hid hlz
      clear hlz
      obtain ⟨C2, HC2⟩ : ∃ C2, Hid (C2 = (lz.map Value.bool).toArray) := ⟨_, Lib.hid rfl⟩
      go_wp2_with (first
        | ((with_reducible refine load_agg (f := Value.bool) (l := lz) (aggVarsL _ HLZ.out) (.tmp 2) ?_ ?_ w.heap.size 0 ?_ hR'.at HC2.out ?_); rfl; rfl; rfl)
        | ((with_reducible refine store_agg (f := Value.bool) (l := zVars) (l' := lz) (t := 89) (C := C2) (aggVarsL _ HLZ.out) (.tmp 4) (.tmp 20) ?_ ?_ (w.heap.size + 1 + 1) ?_ ?_ ?_ hZ ?_ bV_one ?_); rfl; rfl; rfl; exact HC2.out; rfl; exact HLZ.out; intro W5 hs5 hG5 hz5))
      refine bodyPost_ret (results_agg (f := Value.bool) (l := lz) rfl _ (aggVarsL _ HLZ.out) (w.heap.size + 1 + 1) 0 rfl hs5.at) rfl ?_
      exact ⟨_, rfl, Lib.hid (by rw [HE.out]), hB.grown hG5 (Nat.le_of_lt hR'.lt) (fun k e => by cases e; omega)⟩
end Go.Proofs.YtllomcmhkocdfaaGreatDoor

/- What a statement that appends a field reads and sets. -/
namespace Go.Proofs.YtllomcmhkocdfaaGreatDoor
open Go.RowKit Mem
set_option maxRecDepth 100000

theorem Mem.results_agg2 {α : Type} {f : α → Value} {w : World} {l : List α} {P : Program} {fn : Func} {p t : Tmp} {ty : TypeId} (h : fn.results = #[.cell p ty, .tmp t]) (tmps : Array Value) (T : AggT P ty l.length) (b off : Nat) (hp : tmps.getD p undef = .pointer (some ⟨b, off, none⟩)) (hat : At f w b off l) :
    (results fn tmps).run P w = .ok (.tuple #[.agg (l.map f).toArray, tmps.getD t undef]) w := by
  have hp' : tmps[p]?.getD undef = .pointer (some ⟨b, off, none⟩) := by simpa using hp
  simp [results, h, hp', asAddr, run_load_agg T hat]

end Go.Proofs.YtllomcmhkocdfaaGreatDoor

/- The walk through a program: a block without a number. -/
namespace Go.Proofs.YtllomcmhkocdfaaGreatDoor
open Go.RowKit Mem
set_option maxRecDepth 100000

theorem aggPl (l : List Bool) (h : l.length = 17) : AggT Tryz.prog 105 l.length := by
  rw [h]; exact ⟨fun _ => by kernel_rfl, fun _ => by kernel_rfl⟩
abbrev zPl : List Bool := [false, false, false, false, false, false, false, false, false, false, false, false, false, false, false, false, false]
abbrev zPlC : Array Value := #[.bool false, .bool false, .bool false, .bool false, .bool false, .bool false, .bool false, .bool false, .bool false, .bool false, .bool false, .bool false, .bool false, .bool false, .bool false, .bool false, .bool false]

set_option maxHeartbeats 4000000 in
theorem rBlkNeg (w : World) (l : List Bool) (hl : l.length = 17) (C : Array Value) (HC : Hid (C = (l.map Value.bool).toArray)) (lf pv sv : Value) :
    Calls Tryz.prog 49 #[.int .i64 (-1), .agg C, lf, pv, sv] w fun e w' => ∃ C', e = .returned (.agg C') ∧ Hid (C' = (l.map Value.bool).toArray) ∧ Below w.heap.size w w' := by
  have HL := Lib.hid hl
  clear hl
  go_enter Tryz.func49, Tryz.ntmps49
  go_upto_region 1 with (fail)
  obtain ⟨W, hW, hR, hZ, hB⟩ : ∃ W, (w.alloc (.cells C 105)).alloc (.cells zPlC 105) = W ∧ Row Value.bool W w.heap.size 105 l ∧ Row Value.bool W (w.heap.size + 1) 105 zPl ∧ Below w.heap.size w W :=
    ⟨_, rfl, Row.alloc (Row.new w _ (by rw [HC.out])) _, heap_new' _ _ _ (by simp), ((Below.refl _ _).alloc (Nat.le_refl _) _).alloc (by simp) _⟩
  rw [hW]
  clear hW
  go_wp2_with (first
    | ((with_reducible refine load_agg (f := Value.bool) (l := l) (aggPl _ HL.out) (.tmp 6) ?_ ?_ w.heap.size 0 ?_ hR.at HC.out ?_); rfl; rfl; rfl)
    | ((with_reducible refine store_agg (f := Value.bool) (l := zPl) (l' := l) (t := 105) (C := C) (aggPl _ HL.out) (.tmp 8) (.tmp 13) ?_ ?_ (w.heap.size + 1) ?_ ?_ ?_ hZ ?_ bV_one ?_); rfl; rfl; rfl; exact HC.out; rfl; exact HL.out; intro W5 hs5 hG5 hz5))
  refine bodyPost_ret (results_agg (f := Value.bool) (l := l) rfl _ (aggPl _ HL.out) (w.heap.size + 1) 0 rfl hs5.at) rfl ?_
  exact ⟨_, rfl, Lib.hid rfl, hB.grown hG5 (Nat.le_of_lt hR.lt) (fun k e => by cases e; omega)⟩
end Go.Proofs.YtllomcmhkocdfaaGreatDoor

/- The bound of a program. -/
namespace Go.Proofs.YtllomcmhkocdfaaGreatDoor
open Go.RowKit Mem
set_option maxRecDepth 100000

theorem drop_cons {l : List Int} {j : Nat} (h : j < l.length) : l.drop j = l.getD j 0 :: l.drop (j + 1) := by
  rw [List.drop_eq_getElem_cons h, List.getD_eq_getElem?_getD, List.getElem?_eq_getElem h]; rfl
def MaxB : Int := 1099511627776

set_option maxHeartbeats 16000000 in
theorem rBnd {S : List St} {B : List (List Int)} (ss bs : Sl) (hI : LoopsOk S) (hS64 : S.length ≤ 4096) (hB64 : B.length ≤ 4096) (hBl : ∀ l ∈ B, l.length ≤ 4096) (n : Nat) : ∀ (b : Blk), b.size < n → ∀ (k : Int) (w : World), Rep S B k b → PgM w ss bs S B →
    Calls Tryz.prog 25 #[.agg #[ss.v, bs.v], .int .i64 k] w fun e w' => e = .returned (.int .i64 (bnd S b 0)) ∧ Below w.heap.size w w' := by
  induction n with
  | zero => intro b hb; omega
  | succ n ih =>
  intro b hb k w hrep hp
  rcases hrep with ⟨rfl, rfl⟩ | ⟨k, rfl, l, hkl, hrl⟩
  · exact rBoundNeg w _ _
  obtain ⟨kb, ko, kv, hkp, hkc, hkr, hkb, hkn⟩ := hp.block hkl
  obtain ⟨lp, lc, rfl, hlo⟩ := hkr.opn
  obtain ⟨sp, sn, sc⟩ := ss
  obtain ⟨kp, kn, kc⟩ := bs
  simp only at hkp hkn
  subst hkp
  have hll := hBl l (List.mem_of_getElem? hkl)
  have hkn1 : (k : Int) < (kn : Int) := by omega
  have hkn2 : kn ≤ 4096 := by have := hp.nb; simp only at this; omega
  have hsn2 : sn ≤ 4096 := by have := hp.ns; simp only at this; omega
  have HP := Lib.hid hp
  have HRL := Lib.hid hrl
  have HLO := Lib.hid hlo
  have HKC := Lib.hid hkc
  clear hp hrl hlo hkc hkr
  go_enter Tryz.func25, Tryz.ntmps25
  have hR0 : PgBox (w.alloc (.cells #[.slice sp sn sc, .slice (some ⟨kb, ko, none⟩) kn kc] 28)) w.heap.size ⟨sp, sn, sc⟩ ⟨some ⟨kb, ko, none⟩, kn, kc⟩ := World.alloc_heap_new _ _
  have hB0 : Below w.heap.size w (w.alloc (.cells #[.slice sp sn sc, .slice (some ⟨kb, ko, none⟩) kn kc] 28)) := (Below.refl _ _).alloc (Nat.le_refl _) _
  have hs0 : w.heap.size < (w.alloc (.cells #[.slice sp sn sc, .slice (some ⟨kb, ko, none⟩) kn kc] 28)).heap.size := by simp
  go_upto_region 3 with (fail)
  generalize (w.alloc (.cells #[.slice sp sn sc, .slice (some ⟨kb, ko, none⟩) kn kc] 28)) = W at *
  have HF : Hid (∀ X, Below (w.heap.size + 1) W X → PgBox X w.heap.size ⟨sp, sn, sc⟩ ⟨some ⟨kb, ko, none⟩, kn, kc⟩ ∧ PgM X ⟨sp, sn, sc⟩ ⟨some ⟨kb, ko, none⟩, kn, kc⟩ S B ∧ X.cell? ⟨kb, ko + k, none⟩ = some (.slice lp l.length lc) ∧ Below w.heap.size w X) := Lib.hid fun X hX => by
    have hX0 : Below w.heap.size w X := hB0.trans (hX.mono (Nat.le_succ _))
    exact ⟨hR0.below hX (Nat.lt_succ_self _), HP.out.below hX0, (hX0.cell (p := ⟨kb, ko + k, none⟩) hkb).trans HKC.out, hX0⟩
  have hW : Below (w.heap.size + 1) W W := Below.refl _ _
  clear hR0 hB0
  have p1 := (HF.out W hW).1.c1
  have q0 := (HF.out W hW).2.2.1
  simp only at p1
  go_wp2_with fail
  go_loopw [19, 5] (fun i m wr => ∃ (j : Nat) (r : Blk) (x : Int), j ≤ l.length ∧ i = .int .i64 j ∧ m = .int .i64 x ∧ RepL S B (l.drop j) r ∧ r.size ≤ b.size ∧ 0 ≤ x ∧ x ≤ MaxB ∧ bnd S r x = bnd S b 0 ∧ Below (w.heap.size + 1) W wr) (fun i _ _ => l.length - (intOf i).toNat)
  case atStart => exact ⟨0, b, 0, by omega, rfl, rfl, HRL.out, Nat.le_refl _, by omega, by unfold MaxB; omega, rfl, hW⟩
  case round =>
    clear p1 q0 hW
    obtain ⟨j, r, x, hj, rfl, rfl, hr, hrs, hx0, hx1, hxe, hW⟩ := hrel
    have HW := Lib.hid hW
    have HXE := Lib.hid hxe
    have HX1 := Lib.hid hx1
    clear hxe hx1
    by_cases hlt : j < l.length
    · have hq : (j : Int) < (l.length : Int) := by omega
      rcases HLO.out with h0 | ⟨lb, lo, rfl, hlc, hla, hlb⟩
      · rw [h0] at hlt; simp at hlt
      rw [drop_cons hlt] at hr
      obtain ⟨i, t, e, r', s, hi, rfl, hsi, hrt, hre, hr'⟩ := hr.cons
      have hcl : wr.cell? ⟨lb, lo + j, none⟩ = some (.int .i64 (i : Int)) := by
        rw [(hla.below (HF.out _ hW).2.2.2 hlb).cell 0 j hlt, ← hi, List.getD_eq_getElem?_getD]; try rfl
      obtain ⟨sb, so, hsp, hA, _, hin⟩ := (HF.out _ hW).2.1.stmt hsi
      simp only at hsp hin
      subst hsp
      have hin1 : (i : Int) < (sn : Int) := by omega
      have HR' := Lib.hid (And.intro hr' (And.intro hrt hre))
      have hsz : t.size < n ∧ e.size < n ∧ r'.size ≤ b.size := by simp only [Blk.size] at hrs; omega
      have hb : bnd S (.cons i t e r') x = bnd S r' (min (x + (if s.kind = 10 then 1 + max (bnd S t 0) (bnd S e 0) else if s.kind = 11 then 1 + s.I * bnd S t 0 else 1 + bnd S e 0)) 1099511627776) := by rw [bnd, at'_of hsi]
      have HBN := Lib.hid (hb.symm.trans HXE.out)
      have hbt := bnd_le hI t 0 (by omega) (by omega) (by intros; trivial)
      have hbe := bnd_le hI e 0 (by omega) (by omega) (by intros; trivial)
      have hIs := fun h => hI.at hsi h
      clear hr' hrt hre hr hi hb hrs HXE
      have HBT := Lib.hid (And.intro hbt (And.intro hbe hIs))
      clear hbt hbe hIs hla
      have p0 := (HF.out wr hW).1.c0
      simp only at p0
      obtain ⟨C, HC⟩ : ∃ C, Hid (C = (s.cs.map oV).toArray) := ⟨_, Lib.hid rfl⟩
      have hZ : Row oV (wr.alloc (.cells zStmtC 45)) wr.heap.size 45 (stC 0 0 ⟨#[]⟩ 0 0) := Row.new _ _ rfl
      have hWl : w.heap.size + 1 ≤ wr.heap.size := Nat.le_trans hs0 hW.size
      have hW1 : Below (w.heap.size + 1) W (wr.alloc (.cells zStmtC 45)) := hW.alloc hWl _
      clear hW
      go_wp2_with (first
        | ((with_reducible refine load_agg (f := oV) (l := s.cs) (aggSt _) (.tmp 26) ?_ ?_ sb (so + i * 33) ?_ hA HC.out ?_); rfl; rfl; rfl)
        | ((with_reducible refine store_agg (f := oV) (l := stC 0 0 ⟨#[]⟩ 0 0) (l' := s.cs) (t := 45) (C := C) (aggSt _) (.tmp 8) (.tmp 27) ?_ ?_ wr.heap.size ?_ ?_ ?_ hZ ?_ oV_one ?_); rfl; rfl; rfl; exact HC.out; rfl; rfl; (intro W5 hs5 hG5 hz5); (refine Pause.back ?_)))
      have hW5 : Below (w.heap.size + 1) W W5 := hW1.grown hG5 (by simp; omega) (fun k e => by cases e; exact hWl)
      clear hZ hW1 hG5 hz5 p0 hA hcl HW
      generalize hb8 : wr.heap.size = b8 at hs5 hWl ⊢
      obtain ⟨g0, g1, _, _⟩ := HF.out W5 hW5
      have p0 := g0.c0
      have p1 := g0.c1
      simp only at p0 p1
      have e31 : W5.cell? ⟨b8, 31, none⟩ = some (.int .i64 s.t) := by rw [hs5.cell?]; rfl
      have e32 : W5.cell? ⟨b8, 32, none⟩ = some (.int .i64 s.e) := by rw [hs5.cell?]; rfl
      clear g0 g1
      refine Pause.out ?_
      go_upto_region 8 with (fail)
      refine wp_region_held_drew (S := fun W' => PgBox W' w.heap.size ⟨some ⟨sb, so, none⟩, sn, sc⟩ ⟨some ⟨kb, ko, none⟩, kn, kc⟩ ∧ Row oV W' b8 45 s.cs ∧ Below (w.heap.size + 1) W W') rfl ⟨(HF.out W5 hW5).1, hs5, hW5.drew⟩ fun hS => ?_
      refine takeD (i := 0) (d := 28) (v := .agg #[.slice (some ⟨sb, so, none⟩) sn sc, .slice (some ⟨kb, ko, none⟩) kn kc]) rfl rfl (by kernel_rfl) (by kernel_rfl) (by kernel_rfl) (fun c a w h => h) (.inl ⟨by first | rfl | kernel_rfl, fun W' h => by have q0 := h.1.c0; have q1 := h.1.c1; simp only at q0 q1; go_simp⟩) hS ?_
      simp only [List.setIfInBounds_toArray, List.set_cons_succ, List.set_cons_zero]
      refine takeD (i := 1) (d := 29) (v := .pointer (some ⟨b8, 31, none⟩)) rfl rfl (by kernel_rfl) (by kernel_rfl) (by kernel_rfl) (fun c a w h => h) (yieldsIf_op rfl (fun w => by first | rfl | kernel_rfl | (go_simp; done))) hS ?_
      simp only [List.setIfInBounds_toArray, List.set_cons_succ, List.set_cons_zero]
      refine takeD (i := 2) (d := 30) (v := .int .i64 s.t) rfl rfl (by kernel_rfl) (by kernel_rfl) (by kernel_rfl) (fun c a w h => h) (.inl ⟨by first | rfl | kernel_rfl, fun W' h => by have q0 : W'.cell? ⟨b8, 31, none⟩ = some (.int .i64 s.t) := (by rw [h.2.1.cell?]; rfl); go_simp⟩) hS ?_
      simp only [List.setIfInBounds_toArray, List.set_cons_succ, List.set_cons_zero]
      refine takeD (i := 4) (d := 32) (v := .agg #[.slice (some ⟨sb, so, none⟩) sn sc, .slice (some ⟨kb, ko, none⟩) kn kc]) rfl rfl (by kernel_rfl) (by kernel_rfl) (by kernel_rfl) (fun c a w h => h) (.inl ⟨by first | rfl | kernel_rfl, fun W' h => by have q0 := h.1.c0; have q1 := h.1.c1; simp only at q0 q1; go_simp⟩) hS ?_
      simp only [List.setIfInBounds_toArray, List.set_cons_succ, List.set_cons_zero]
      refine takeD (i := 5) (d := 33) (v := .pointer (some ⟨b8, 32, none⟩)) rfl rfl (by kernel_rfl) (by kernel_rfl) (by kernel_rfl) (fun c a w h => h) (yieldsIf_op rfl (fun w => by first | rfl | kernel_rfl | (go_simp; done))) hS ?_
      simp only [List.setIfInBounds_toArray, List.set_cons_succ, List.set_cons_zero]
      refine takeD (i := 6) (d := 34) (v := .int .i64 s.e) rfl rfl (by kernel_rfl) (by kernel_rfl) (by kernel_rfl) (fun c a w h => h) (.inl ⟨by first | rfl | kernel_rfl, fun W' h => by have q0 : W'.cell? ⟨b8, 32, none⟩ = some (.int .i64 s.e) := (by rw [h.2.1.cell?]; rfl); go_simp⟩) hS ?_
      simp only [List.setIfInBounds_toArray, List.set_cons_succ, List.set_cons_zero]
      refine wpAnyH_ready (rs := [3]) (by kernel_rfl) (by simp) (AllReadyH.cons rfl (fun K' hK => ?_) AllReadyH.nil)
      refine callD (d := 31) (g := 25) (args := #[.agg #[.slice (some ⟨sb, so, none⟩) sn sc, .slice (some ⟨kb, ko, none⟩) kn kc], .int .i64 s.t]) rfl rfl (by first | kernel_rfl | (simp [execOp, resolve, invoke, Act.eval]) | go_simp) ?_
      refine (ih t hsz.1 s.t (W5.drew) HR'.out.2.1 (HF.out _ hS.2.2).2.1).mono ?_
      rintro e0 W6 ⟨rfl, hBn⟩
      replace hS := And.intro (hS.1.below hBn (Nat.lt_of_lt_of_le (Nat.lt_succ_self _) (Nat.le_trans hs0 hS.2.2.size))) (And.intro (hS.2.1.below hBn hS.2.1.lt) (hS.2.2.trans (hBn.mono (Nat.le_trans hs0 hS.2.2.size))))
      refine ⟨_, rfl, hK.out _ _ hS fun _ => ?_⟩
      clear hK hBn
      simp only [List.setIfInBounds_toArray, List.set_cons_succ, List.set_cons_zero]
      refine wpAnyH_ready (rs := [7]) (by kernel_rfl) (by simp) (AllReadyH.cons rfl (fun K' hK => ?_) AllReadyH.nil)
      refine callD (d := 35) (g := 25) (args := #[.agg #[.slice (some ⟨sb, so, none⟩) sn sc, .slice (some ⟨kb, ko, none⟩) kn kc], .int .i64 s.e]) rfl rfl (by first | kernel_rfl | (simp [execOp, resolve, invoke, Act.eval]) | go_simp) ?_
      refine (ih e hsz.2.1 s.e (W6) HR'.out.2.2 (HF.out _ hS.2.2).2.1).mono ?_
      rintro e0 W7 ⟨rfl, hBn⟩
      replace hS := And.intro (hS.1.below hBn (Nat.lt_of_lt_of_le (Nat.lt_succ_self _) (Nat.le_trans hs0 hS.2.2.size))) (And.intro (hS.2.1.below hBn hS.2.1.lt) (hS.2.2.trans (hBn.mono (Nat.le_trans hs0 hS.2.2.size))))
      refine ⟨_, rfl, hK.out _ _ hS fun _ => ?_⟩
      clear hK hBn
      simp only [List.setIfInBounds_toArray, List.set_cons_succ, List.set_cons_zero]
      refine takeD (i := 8) (d := 9) (v := .int .i64 (bnd S t 0)) rfl rfl (by kernel_rfl) (by kernel_rfl) (by kernel_rfl) (fun c a w h => h) (yieldsIf_op rfl (fun w => by first | rfl | kernel_rfl | (go_simp; done))) hS ?_
      simp only [List.setIfInBounds_toArray, List.set_cons_succ, List.set_cons_zero]
      refine takeD (i := 9) (d := 10) (v := .int .i64 (bnd S e 0)) rfl rfl (by kernel_rfl) (by kernel_rfl) (by kernel_rfl) (fun c a w h => h) (yieldsIf_op rfl (fun w => by first | rfl | kernel_rfl | (go_simp; done))) hS ?_
      simp only [List.setIfInBounds_toArray, List.set_cons_succ, List.set_cons_zero]
      refine wpAnyH_done (by kernel_rfl) ?_ _
      have hW7 := hS.2.2
      have hs7 := hS.2.1
      clear hS p0 p1 e31 e32 hs5
      have e0 : W7.cell? ⟨b8, 0, none⟩ = some (.int .i64 s.kind) := by rw [hs7.cell?]; rfl
      have e5 : W7.cell? ⟨b8, 5, none⟩ = some (.int .i64 s.I) := by rw [hs7.cell?]; rfl
      have hx1 := HX1.out
      obtain ⟨hbt, hbe, hIs⟩ := HBT.out
      have HW7 := Lib.hid hW7
      clear hs7 hW7
      generalize (bnd S t 0) = bt at *
      generalize (bnd S e 0) = be at *
      have fin : ∀ y, y = (if s.kind = 10 then 1 + max bt be else if s.kind = 11 then 1 + s.I * bt else 1 + be) → 0 ≤ y → ∃ z, min (x + y) 1099511627776 = z ∧ 0 ≤ z ∧ z ≤ MaxB ∧ bnd S r' z = bnd S b 0 := by
        intro y hy h0
        refine ⟨_, rfl, by omega, by unfold MaxB; omega, ?_⟩
        rw [hy]
        exact HBN.out
      unfold MaxB at hx1
      have HFIN := Lib.hid fin
      clear fin HBN HX1 HBT
      by_cases h10 : s.kind = 10
      · rw [h10] at e0
        obtain ⟨m, hm⟩ : ∃ m, max bt be = m := ⟨_, rfl⟩
        have hmb : 0 ≤ m ∧ m ≤ 1099511627776 := by omega
        obtain ⟨z, hz, hz0, hz1, hz2⟩ := HFIN.out (1 + m) (by rw [if_pos h10, hm]) (by omega)
        have HM := Lib.hid hm
        have HZ := Lib.hid hz
        have HZ2 := Lib.hid (And.intro hz1 hz2)
        clear hm hz hz1 hz2 hIs HFIN h10 hbt hbe
        go_wp2_with (first
          | ((with_reducible refine max2_law (.tmp 45) (.tmp 46) #[3, 3] ?_ ?_ bt be m ?_ ?_ HM.out ?_); rfl; rfl; rfl; rfl)
          | ((with_reducible refine min2_law (.tmp 59) (.const (.int .i64 1099511627776)) #[3, 3] ?_ ?_ (x + (1 + m)) 1099511627776 z ?_ ?_ HZ.out ?_); rfl; rfl; rfl; rfl))
        go_roundw
        case rel => exact ⟨j + 1, r', z, by omega, by go_num, rfl, HR'.out.1, hsz.2.2, hz0, HZ2.out.1, HZ2.out.2, HW7.out⟩
        case measure => simp [intOf]; omega
      · have k10 : (s.kind == 10) = false := by simpa using h10
        by_cases h11 : s.kind = 11
        · rw [h11] at e0
          obtain ⟨hI0, hI1⟩ := hIs h11
          have hmm : 0 ≤ s.I * bt ∧ s.I * bt ≤ 8796093022208 := ⟨Int.mul_nonneg hI0 hbt.1, by
            have h1 : s.I * bt ≤ 8 * bt := Int.mul_le_mul_of_nonneg_right hI1 hbt.1
            omega⟩
          obtain ⟨z, hz, hz0, hz1, hz2⟩ := HFIN.out (1 + s.I * bt) (by rw [if_neg h10, if_pos h11]) (by omega)
          have HZ := Lib.hid hz
          have HZ2 := Lib.hid (And.intro hz1 hz2)
          have hw1 : IntKind.i64.wrap (s.I * bt) = s.I * bt := IntWalk.i64_in _ (by omega)
          have hbt' := hbt
          clear hz hz1 hz2 hIs HFIN h10 hbt hbe h11 hI0 hI1
          have hbt0 := hbt'.1
          have hbt1 := hbt'.2
          go_wp2_with ((with_reducible refine min2_law (.tmp 59) (.const (.int .i64 1099511627776)) #[3, 3] ?_ ?_ (x + (1 + s.I * bt)) 1099511627776 z ?_ ?_ HZ.out ?_); rfl; rfl; rfl; rfl)
          go_roundw
          case rel => exact ⟨j + 1, r', z, by omega, by go_num, rfl, HR'.out.1, hsz.2.2, hz0, HZ2.out.1, HZ2.out.2, HW7.out⟩
          case measure => simp [intOf]; omega
        · have k11 : (s.kind == 11) = false := by simpa using h11
          obtain ⟨z, hz, hz0, hz1, hz2⟩ := HFIN.out (1 + be) (by rw [if_neg h10, if_neg h11]) (by omega)
          have HZ := Lib.hid hz
          have HZ2 := Lib.hid (And.intro hz1 hz2)
          have hbe0 := hbe.1
          have hbe1 := hbe.2
          clear hz hz1 hz2 hIs HFIN h10 hbt hbe h11
          go_wp2_with ((with_reducible refine min2_law (.tmp 59) (.const (.int .i64 1099511627776)) #[3, 3] ?_ ?_ (x + (1 + be)) 1099511627776 z ?_ ?_ HZ.out ?_); rfl; rfl; rfl; rfl)
          go_roundw
          case rel => exact ⟨j + 1, r', z, by omega, by go_num, rfl, HR'.out.1, hsz.2.2, hz0, HZ2.out.1, HZ2.out.2, HW7.out⟩
          case measure => simp [intOf]; omega
    · obtain rfl : j = l.length := by omega
      rw [List.drop_length] at hr
      have hrn := hr.nil
      subst hrn
      have HE := Lib.hid (show x = bnd S b 0 from HXE.out)
      clear hr HXE
      go_wp2_with fail
      go_ret
      exact ⟨congrArg (fun v => Ending.returned (Value.int .i64 v)) HE.out, (HF.out _ HW.out).2.2.2⟩
end Go.Proofs.YtllomcmhkocdfaaGreatDoor

/- Sets of variables: of, and. -/
namespace Go.Proofs.YtllomcmhkocdfaaGreatDoor
open Go.RowKit Mem
set_option maxRecDepth 100000

theorem take_succ_getD (xs : List Int) (k : Nat) (hk : k < xs.length) : xs.take (k + 1) = xs.take k ++ [xs.getD k 0] := by
  rw [List.take_succ_eq_append_getElem hk, List.getD_eq_getElem?_getD, List.getElem?_eq_getElem hk]; rfl
theorem getD_mem (xs : List Int) (k : Nat) (hk : k < xs.length) : xs.getD k 0 ∈ xs := by
  rw [List.getD_eq_getElem?_getD, List.getElem?_eq_getElem hk]; exact List.getElem_mem _
theorem foldl_take_succ (g : Int → Nat) (xs : List Int) (l : List Bool) (k : Nat) (hk : k < xs.length) :
    (xs.take (k + 1)).foldl (fun l x => l.set (g x) true) l = ((xs.take k).foldl (fun l x => l.set (g x) true) l).set (g (xs.getD k 0)) true := by
  rw [take_succ_getD xs k hk, List.foldl_append]; rfl

set_option maxHeartbeats 8000000 in
/-- the set of the strings xs and the integers ns -/
theorem rOf (w : World) (v1 v2 : Value) (xs ns : List Int) (h1 : Rd iV w v1 xs) (h2 : Rd iV w v2 ns) (hx : ∀ x ∈ xs, 0 ≤ x ∧ x ≤ 11) (hn : ∀ x ∈ ns, 0 ≤ x ∧ x ≤ 3) (l1 : xs.length ≤ 64) (l2 : ns.length ≤ 64) :
    Calls Tryz.prog 27 #[v1, v2] w fun e w' => ∃ C, e = .returned (.agg C) ∧ Hid (C = ((ofV xs ns).map Value.bool).toArray) ∧ Below w.heap.size w w' := by
  obtain ⟨p1, c1, rfl, k1⟩ := h1.opn
  obtain ⟨p2, c2, rfl, k2⟩ := h2.opn
  have HX := Lib.hid (And.intro hx hn)
  have H1 := Lib.hid k1
  have H2 := Lib.hid k2
  clear hx hn h1 h2 k1 k2
  go_enter Tryz.func27, Tryz.ntmps27
  go_wp2_with fail
  obtain ⟨W, hW, hR, hZ, hB, hs⟩ : ∃ W, (w.alloc (.cells zVarsC 89)).alloc (.cells zVarsC 89) = W ∧ Row Value.bool W w.heap.size 89 zVars ∧ Row Value.bool W (w.heap.size + 1) 89 zVars ∧ Below w.heap.size w W ∧ w.heap.size + 2 ≤ W.heap.size := by
    refine ⟨_, rfl, Row.alloc (Row.new (f := Value.bool) (l := zVars) w (.cells zVarsC 89) rfl) _, heap_new' _ _ _ (by simp), ((Below.refl _ _).alloc (Nat.le_refl _) _).alloc (by simp) _, by simp⟩
  rw [hW]
  clear hW
  go_loopw [12] (fun i wr => ∃ k : Nat, k ≤ xs.length ∧ i = .int .i64 k ∧ Row Value.bool wr w.heap.size 89 zVars ∧ Row Value.bool wr (w.heap.size + 1) 89 ((xs.take k).foldl (fun l x => l.set x.toNat true) zV16) ∧ Below w.heap.size w wr) (fun i _ => xs.length - (intOf i).toNat)
  case atStart => exact ⟨0, by omega, rfl, hR, hZ, hB⟩
  case round =>
    clear hR hZ hB hs
    obtain ⟨k, hk, rfl, hR, hZ, hB⟩ := hrel
    by_cases hlt : k < xs.length
    · have hq : (k : Int) < (xs.length : Int) := by omega
      rcases H1.out with h0 | ⟨b, o, rfl, hc, ha, hb⟩
      · rw [h0] at hlt; simp at hlt
      have hcl : wr.cell? ⟨b, o + k, none⟩ = some (.int .i64 (xs.getD k 0)) := by rw [(ha.below hB hb).cell 0 k hlt, List.getD_eq_getElem?_getD]; rfl
      have hm := HX.out.1 _ (getD_mem xs k hlt)
      have HS := Lib.hid (foldl_take_succ (fun x => x.toNat) xs zV16 k hlt)
      clear ha H1
      generalize xs.getD k 0 = x at hcl hm HS
      obtain ⟨n, rfl⟩ := Int.eq_ofNat_of_zero_le hm.1
      have hm1 : (n : Int) < 16 := by omega
      have hm2 : (0 : Int) ≤ (n : Int) := by omega
      have hfr := hZ.frozen n
      have hcx : ∃ y, wr.cell? ⟨w.heap.size + 1, n, none⟩ = some (.bool y) := by
        have hln : ((xs.take k).foldl (fun l (x : Int) => l.set x.toNat true) zV16).length = 16 := foldl_set_length _ _ _
        exact ⟨_, by rw [hZ.cell?, List.getElem?_eq_getElem (by rw [hln]; omega)]; rfl⟩
      obtain ⟨y, hcx⟩ := hcx
      have HR := Lib.hid hR
      have HZ := Lib.hid hZ
      have HB := Lib.hid hB
      have HM := Lib.hid hm
      clear hR hZ hB hm
      go_wp2_with fail
      go_roundw
      case rel =>
        refine ⟨k + 1, by omega, by go_num, HR.out.set_other (by omega) _ _, ?_, below_set HB.out _ (by omega) _⟩
        rw [HS.out]
        exact HZ.out.set n true
      case measure => simp [intOf]; omega
    · obtain rfl : k = xs.length := by omega
      go_wp2_with fail
      rw [List.take_length] at hZ
      go_loopw [21] (fun i wr => ∃ k : Nat, k ≤ ns.length ∧ i = .int .i64 k ∧ Row Value.bool wr w.heap.size 89 zVars ∧ Row Value.bool wr (w.heap.size + 1) 89 ((ns.take k).foldl (fun l n => l.set (12 + n.toNat) true) (xs.foldl (fun l x => l.set x.toNat true) zV16)) ∧ Below w.heap.size w wr) (fun i _ => ns.length - (intOf i).toNat)
      case atStart => exact ⟨0, by omega, rfl, hR, hZ, hB⟩
      case round =>
        clear hR hZ hB
        obtain ⟨k, hk, rfl, hR, hZ, hB⟩ := hrel
        have hln : ((ns.take k).foldl (fun l (n : Int) => l.set (12 + n.toNat) true) (xs.foldl (fun l (x : Int) => l.set x.toNat true) zV16)).length = 16 := by rw [foldl_set_length, foldl_set_length]; rfl
        by_cases hlt : k < ns.length
        · have hq : (k : Int) < (ns.length : Int) := by omega
          rcases H2.out with h0 | ⟨b, o, rfl, hc, ha, hb⟩
          · rw [h0] at hlt; simp at hlt
          have hcl : wr.cell? ⟨b, o + k, none⟩ = some (.int .i64 (ns.getD k 0)) := by rw [(ha.below hB hb).cell 0 k hlt, List.getD_eq_getElem?_getD]; rfl
          have hm := HX.out.2 _ (getD_mem ns k hlt)
          have HS := Lib.hid (foldl_take_succ (fun x => 12 + x.toNat) ns (xs.foldl (fun l x => l.set x.toNat true) zV16) k hlt)
          clear ha H2
          generalize ns.getD k 0 = x at hcl hm HS
          obtain ⟨n, rfl⟩ := Int.eq_ofNat_of_zero_le hm.1
          have hm1 : (12 : Int) + (n : Int) < 16 := by omega
          have hm2 : (0 : Int) ≤ (12 : Int) + (n : Int) := by omega
          have hm3 : ((12 : Int) + (n : Int)).toNat = 12 + n := by omega
          have hfr := hZ.frozen (12 + n)
          have hcx : ∃ y, wr.cell? ⟨w.heap.size + 1, 12 + n, none⟩ = some (.bool y) := ⟨_, by rw [hZ.cell?, List.getElem?_eq_getElem (by rw [hln]; omega)]; rfl⟩
          obtain ⟨y, hcx⟩ := hcx
          have HR := Lib.hid hR
          have HZ := Lib.hid hZ
          have HB := Lib.hid hB
          clear hR hZ hB hm hln
          go_wp2_with fail
          go_roundw
          case rel =>
            refine ⟨k + 1, by omega, by go_num, HR.out.set_other (by omega) _ _, ?_, below_set HB.out _ (by omega) _⟩
            rw [HS.out]
            exact HZ.out.set (12 + n) true
          case measure => simp [intOf]; omega
        · obtain rfl : k = ns.length := by omega
          rw [List.take_length] at hZ hln
          have hZ' : Row Value.bool wr (w.heap.size + 1) 89 (ofV xs ns) := hZ
          have hlz : (ofV xs ns).length = 16 := ofV_length xs ns
          clear hZ hln H1 H2 HX
          generalize hLe : ofV xs ns = L at hZ' hlz
          have HE := Lib.hid hLe
          clear hLe
          have HL := Lib.hid hlz
          clear hlz
          obtain ⟨C2, HC2⟩ : ∃ C2, Hid (C2 = (L.map Value.bool).toArray) := ⟨_, Lib.hid rfl⟩
          go_wp2_with (first
            | ((with_reducible refine load_agg (f := Value.bool) (l := L) (aggVarsL _ HL.out) (.tmp 5) ?_ ?_ (w.heap.size + 1) 0 ?_ hZ'.at HC2.out ?_); rfl; rfl; rfl)
            | ((with_reducible refine store_agg (f := Value.bool) (l := zVars) (l' := L) (t := 89) (C := C2) (aggVarsL _ HL.out) (.tmp 4) (.tmp 29) ?_ ?_ w.heap.size ?_ ?_ ?_ hR ?_ bV_one ?_); rfl; rfl; rfl; exact HC2.out; rfl; exact HL.out; intro W5 hs5 hG5 hz5))
          refine bodyPost_ret (results_agg (f := Value.bool) (l := L) rfl _ (aggVarsL _ HL.out) w.heap.size 0 rfl hs5.at) rfl ?_
          exact ⟨_, rfl, Lib.hid (by rw [HE.out]), hB.grown hG5 (Nat.le_of_lt hR.lt) (fun k e => by cases e; omega)⟩
end Go.Proofs.YtllomcmhkocdfaaGreatDoor

/- The walk through a program: a statement that appends a field. -/
namespace Go.Proofs.YtllomcmhkocdfaaGreatDoor
open Go.RowKit Mem
set_option maxRecDepth 100000

end Go.Proofs.YtllomcmhkocdfaaGreatDoor

/- The walk through a program: its main block of one statement that appends a field. -/
namespace Go.Proofs.YtllomcmhkocdfaaGreatDoor
open Go.RowKit Mem
set_option maxRecDepth 100000

end Go.Proofs.YtllomcmhkocdfaaGreatDoor

/- What statements set: copies, constants, splits, cuts, takes. -/
namespace Go.Proofs.YtllomcmhkocdfaaGreatDoor
open Go.RowKit Mem
set_option maxRecDepth 100000

set_option maxHeartbeats 8000000 in
theorem rSets_1 (w : World) (x : Int) (y : Int) (hy : 1 ≤ y ∧ y ≤ 11) (C : Array Value) (HC : Hid (C = ((stCopy x y).cs.map oV).toArray)) :
    Calls Tryz.prog 28 #[.agg C] w fun e w' => ∃ C', e = .returned (.tuple #[.agg C', .bool (flB (stCopy x y))]) ∧ Hid (C' = ((svV (stCopy x y)).map Value.bool).toArray) ∧ Below w.heap.size w w' := by
  go_enter Tryz.func28, Tryz.ntmps28
  go_upto_region 1 with (fail)
  obtain ⟨W, hW, hR, hZ, hB, hs⟩ : ∃ W, (w.alloc (.cells C 45)).alloc (.cells zVarsC 89) = W ∧ Row oV W w.heap.size 45 (stCopy x y).cs ∧ Row Value.bool W (w.heap.size + 1) 89 zVars ∧ Below w.heap.size w W ∧ w.heap.size + 2 ≤ W.heap.size := by
    refine ⟨_, rfl, Row.alloc (Row.new w _ (by rw [HC.out])) _, heap_new' _ _ _ (by simp), ((Below.refl _ _).alloc (Nat.le_refl _) _).alloc (by simp) _, by simp⟩
  rw [hW]
  clear hW
  obtain ⟨my, rfl⟩ := Int.eq_ofNat_of_zero_le (show 0 ≤ y by omega)
  have qy1 : (my : Int) < 16 := by omega
  have qy2 : (0 : Int) ≤ (my : Int) := by omega
  have qy3 : my < 16 := by omega
  have c0 : W.cell? ⟨w.heap.size, 0, none⟩ = some (.int .i64 1) := by rw [hR.cell?]; rfl
  have c2 : W.cell? ⟨w.heap.size, 2, none⟩ = some (.int .i64 (my : Int)) := by rw [hR.cell?]; rfl
  have dy : W.cell? ⟨w.heap.size + 1, my, none⟩ = some (.bool (zVars[my]'(by simpa using qy3))) := by rw [hZ.cell?, List.getElem?_eq_getElem (by simpa using qy3)]; rfl
  have fy := hZ.frozen my
  have HR := Lib.hid (And.intro hR hZ)
  clear hR hZ hy
  go_upto_region 16 with (fail)
  have hs5 := (HR.out.2.set my true)
  have hR5 := (HR.out.1.set_other (b' := w.heap.size + 1) (by omega) my (.bool true))
  have hB2 := (below_set hB (b := w.heap.size + 1) my (by omega) (.bool true))
  generalize (W.setCell ⟨w.heap.size + 1, my, none⟩ (.bool true)) = W5 at hs5 hR5 hB2 ⊢
  have HL : Hid ((zVars.set my true).length = 16) := Lib.hid (by simp)
  clear HR hB hs c0 c2 dy fy
  obtain ⟨CL, HCL⟩ : ∃ CL, Hid (CL = (((zVars.set my true)).map Value.bool).toArray) := ⟨_, Lib.hid rfl⟩
  have hlt5 := hR5.lt
  refine region_headsT (S := fun X => Row oV X w.heap.size 45 (stCopy x (my : Int)).cs ∧ Row Value.bool X (w.heap.size + 1) 89 ((zVars.set my true)) ∧ Below w.heap.size w X) 14 rfl (by kernel_rfl) ⟨hR5, hs5, ⟨hB2.os, hB2.tape, hB2.output, hB2.size, hB2.block⟩⟩ fun hS => ?_
  refine headsT_takeD (i := 0) (d := 32) (v := .agg CL) (by kernel_rfl) rfl rfl (by omega) (by kernel_rfl) (by kernel_rfl) (fun c a w h => h) (yieldsIf_load (f := Value.bool) (l := (zVars.set my true)) (aggVarsL _ HL.out) (.tmp 2) rfl (w.heap.size + 1) 0 rfl (fun W' h => h.2.1.at) HCL.out rfl) hS ?_
  simp only [List.setIfInBounds_toArray, List.set_cons_succ, List.set_cons_zero]
  refine headsT_takeD (i := 1) (d := 33) (v := .bool false) (by kernel_rfl) rfl rfl (by omega) (by kernel_rfl) (by kernel_rfl) (fun c a w h => h) (yieldsIf_op rfl (fun w => by first | rfl | kernel_rfl | (go_simp; done))) hS ?_
  simp only [List.setIfInBounds_toArray, List.set_cons_succ, List.set_cons_zero]
  refine headsT_takeD (i := 2) (d := 34) (v := .bool false) (by kernel_rfl) rfl rfl (by omega) (by kernel_rfl) (by kernel_rfl) (fun c a w h => h) (yieldsIf_op rfl (fun w => by first | rfl | kernel_rfl | (go_simp; done))) hS ?_
  simp only [List.setIfInBounds_toArray, List.set_cons_succ, List.set_cons_zero]
  refine headsT_takeD (i := 3) (d := 35) (v := .pointer (some ⟨w.heap.size, 0, none⟩)) (by kernel_rfl) rfl rfl (by omega) (by kernel_rfl) (by kernel_rfl) (fun c a w h => h) (yieldsIf_op rfl (fun w => by first | rfl | kernel_rfl | (go_simp; done))) hS ?_
  simp only [List.setIfInBounds_toArray, List.set_cons_succ, List.set_cons_zero]
  refine headsT_takeD (i := 4) (d := 36) (v := .int .i64 1) (by kernel_rfl) rfl rfl (by omega) (by kernel_rfl) (by kernel_rfl) (fun c a w h => h) (.inl ⟨by first | rfl | kernel_rfl, fun W' h => by have q0 : W'.cell? ⟨w.heap.size, 0, none⟩ = some (.int .i64 1) := (by rw [h.1.cell?]; rfl); go_simp⟩) hS ?_
  simp only [List.setIfInBounds_toArray, List.set_cons_succ, List.set_cons_zero]
  refine headsT_takeD (i := 5) (d := 37) (v := .bool false) (by kernel_rfl) rfl rfl (by omega) (by kernel_rfl) (by kernel_rfl) (fun c a w h => h) (yieldsIf_op rfl (fun w => by first | rfl | kernel_rfl | (go_simp; done))) hS ?_
  simp only [List.setIfInBounds_toArray, List.set_cons_succ, List.set_cons_zero]
  refine headsT_takeD (i := 6) (d := 38) (v := .bool false) (by kernel_rfl) rfl rfl (by omega) (by kernel_rfl) (by kernel_rfl) (fun c a w h => h) (yieldsIf_op rfl (fun w => by first | rfl | kernel_rfl | (go_simp; done))) hS ?_
  simp only [List.setIfInBounds_toArray, List.set_cons_succ, List.set_cons_zero]
  refine headsT_takeD (i := 7) (d := 39) (v := undef) (by kernel_rfl) rfl rfl (by omega) (by kernel_rfl) (by kernel_rfl) (fun c a w h => h) (yieldsIf_skip (by first | rfl | kernel_rfl)) hS ?_
  simp only [List.setIfInBounds_toArray, List.set_cons_succ, List.set_cons_zero]
  refine headsT_takeD (i := 8) (d := 40) (v := undef) (by kernel_rfl) rfl rfl (by omega) (by kernel_rfl) (by kernel_rfl) (fun c a w h => h) (yieldsIf_skip (by first | rfl | kernel_rfl)) hS ?_
  simp only [List.setIfInBounds_toArray, List.set_cons_succ, List.set_cons_zero]
  refine headsT_takeD (i := 9) (d := 41) (v := undef) (by kernel_rfl) rfl rfl (by omega) (by kernel_rfl) (by kernel_rfl) (fun c a w h => h) (yieldsIf_skip (by first | rfl | kernel_rfl)) hS ?_
  simp only [List.setIfInBounds_toArray, List.set_cons_succ, List.set_cons_zero]
  refine headsT_takeD (i := 10) (d := 42) (v := undef) (by kernel_rfl) rfl rfl (by omega) (by kernel_rfl) (by kernel_rfl) (fun c a w h => h) (yieldsIf_skip (by first | rfl | kernel_rfl)) hS ?_
  simp only [List.setIfInBounds_toArray, List.set_cons_succ, List.set_cons_zero]
  refine headsT_takeD (i := 11) (d := 43) (v := .bool false) (by kernel_rfl) rfl rfl (by omega) (by kernel_rfl) (by kernel_rfl) (fun c a w h => h) (yieldsIf_op rfl (fun w => by first | rfl | kernel_rfl | (go_simp; done))) hS ?_
  simp only [List.setIfInBounds_toArray, List.set_cons_succ, List.set_cons_zero]
  refine headsT_takeD (i := 12) (d := 44) (v := .bool false) (by kernel_rfl) rfl rfl (by omega) (by kernel_rfl) (by kernel_rfl) (fun c a w h => h) (yieldsIf_op rfl (fun w => by first | rfl | kernel_rfl | (go_simp; done))) hS ?_
  simp only [List.setIfInBounds_toArray, List.set_cons_succ, List.set_cons_zero]
  refine headsT_ready (rs := [13]) (by kernel_rfl) (by simp) (AllReadyT.cons (by omega) rfl (fun K' hK => ?_) AllReadyT.nil)
  refine storeH (f := Value.bool) (l := (zVars.set my true)) (l' := (zVars.set my true)) (t := 89) (C := CL) (aggVarsL _ HL.out) (.tmp 2) (.tmp 32) rfl rfl rfl (w.heap.size + 1) rfl HCL.out rfl hS.2.1 rfl bV_one ?_
  intro W7 hs7 hG7
  have hR7 := hS.1.grown hG7 (by intro e; injection e with e; omega)
  have hB7 := hS.2.2.grown hG7 (Nat.le_of_lt hS.1.lt) (fun k e => by cases e; omega)
  refine hK.out _ _ ⟨hR7, hs7, hB7⟩ fun _ => ?_
  clear hK hs5 hR5 hB2 hS hR7 hG7
  refine headsT_tail (by kernel_rfl) ?_
  simp only [List.drop]
  go_wp2_with fail
  refine bodyPost_ret (v := .tuple #[.agg (((zVars.set my true)).map Value.bool).toArray, .bool false]) (results_agg2 (f := Value.bool) (l := (zVars.set my true)) (t := 3) rfl _ (aggVarsL _ HL.out) (w.heap.size + 1) 0 rfl hs7.at) rfl ?_
  exact ⟨_, rfl, Lib.hid rfl, hB7⟩
set_option maxHeartbeats 8000000 in
theorem rSets_3 (w : World) (x : Int) (y : Int) (z : Int) (B : Sl) (la : Bool) (els : Int) (lb : List UInt8) (hz : 1 ≤ z ∧ z ≤ 11) (hy : 1 ≤ y ∧ y ≤ 11) (C : Array Value) (HC : Hid (C = ((stSplit x y z B la els lb).cs.map oV).toArray)) :
    Calls Tryz.prog 28 #[.agg C] w fun e w' => ∃ C', e = .returned (.tuple #[.agg C', .bool (flB (stSplit x y z B la els lb))]) ∧ Hid (C' = ((svV (stSplit x y z B la els lb)).map Value.bool).toArray) ∧ Below w.heap.size w w' := by
  go_enter Tryz.func28, Tryz.ntmps28
  go_upto_region 1 with (fail)
  obtain ⟨W, hW, hR, hZ, hB, hs⟩ : ∃ W, (w.alloc (.cells C 45)).alloc (.cells zVarsC 89) = W ∧ Row oV W w.heap.size 45 (stSplit x y z B la els lb).cs ∧ Row Value.bool W (w.heap.size + 1) 89 zVars ∧ Below w.heap.size w W ∧ w.heap.size + 2 ≤ W.heap.size := by
    refine ⟨_, rfl, Row.alloc (Row.new w _ (by rw [HC.out])) _, heap_new' _ _ _ (by simp), ((Below.refl _ _).alloc (Nat.le_refl _) _).alloc (by simp) _, by simp⟩
  rw [hW]
  clear hW
  obtain ⟨mz, rfl⟩ := Int.eq_ofNat_of_zero_le (show 0 ≤ z by omega)
  have qz1 : (mz : Int) < 16 := by omega
  have qz2 : (0 : Int) ≤ (mz : Int) := by omega
  have qz3 : mz < 16 := by omega
  obtain ⟨my, rfl⟩ := Int.eq_ofNat_of_zero_le (show 0 ≤ y by omega)
  have qy1 : (my : Int) < 16 := by omega
  have qy2 : (0 : Int) ≤ (my : Int) := by omega
  have qy3 : my < 16 := by omega
  have c0 : W.cell? ⟨w.heap.size, 0, none⟩ = some (.int .i64 3) := by rw [hR.cell?]; rfl
  have c2 : W.cell? ⟨w.heap.size, 2, none⟩ = some (.int .i64 (my : Int)) := by rw [hR.cell?]; rfl
  have c3 : W.cell? ⟨w.heap.size, 3, none⟩ = some (.int .i64 (mz : Int)) := by rw [hR.cell?]; rfl
  have dz : W.cell? ⟨w.heap.size + 1, mz, none⟩ = some (.bool (zVars[mz]'(by simpa using qz3))) := by rw [hZ.cell?, List.getElem?_eq_getElem (by simpa using qz3)]; rfl
  have fz := hZ.frozen mz
  have dy : W.cell? ⟨w.heap.size + 1, my, none⟩ = some (.bool (zVars[my]'(by simpa using qy3))) := by rw [hZ.cell?, List.getElem?_eq_getElem (by simpa using qy3)]; rfl
  have fy := hZ.frozen my
  have HR := Lib.hid (And.intro hR hZ)
  have dd : ∃ b, (W.setCell ⟨w.heap.size + 1, mz, none⟩ (.bool true)).cell? ⟨w.heap.size + 1, my, none⟩ = some (.bool b) := ⟨_, by rw [(hZ.set mz true).cell?, List.getElem?_eq_getElem (by simpa using qy3)]; rfl⟩
  obtain ⟨bb, dd⟩ := dd
  clear hR hZ hz hy
  go_upto_region 16 with (fail)
  have hs5 := ((HR.out.2.set mz true).set my true)
  have hR5 := ((HR.out.1.set_other (b' := w.heap.size + 1) (by omega) mz (.bool true)).set_other (b' := w.heap.size + 1) (by omega) my (.bool true))
  have hB2 := (below_set (below_set hB (b := w.heap.size + 1) mz (by omega) (.bool true)) (b := w.heap.size + 1) my (by omega) (.bool true))
  generalize ((W.setCell ⟨w.heap.size + 1, mz, none⟩ (.bool true)).setCell ⟨w.heap.size + 1, my, none⟩ (.bool true)) = W5 at hs5 hR5 hB2 ⊢
  have HL : Hid (((zVars.set mz true).set my true).length = 16) := Lib.hid (by simp)
  clear HR hB hs c0 c2 c3 dz fz dy fy dd
  obtain ⟨CL, HCL⟩ : ∃ CL, Hid (CL = ((((zVars.set mz true).set my true)).map Value.bool).toArray) := ⟨_, Lib.hid rfl⟩
  have hlt5 := hR5.lt
  refine region_headsT (S := fun X => Row oV X w.heap.size 45 (stSplit x (my : Int) (mz : Int) B la els lb).cs ∧ Row Value.bool X (w.heap.size + 1) 89 (((zVars.set mz true).set my true)) ∧ Below w.heap.size w X) 14 rfl (by kernel_rfl) ⟨hR5, hs5, ⟨hB2.os, hB2.tape, hB2.output, hB2.size, hB2.block⟩⟩ fun hS => ?_
  refine headsT_takeD (i := 0) (d := 32) (v := .agg CL) (by kernel_rfl) rfl rfl (by omega) (by kernel_rfl) (by kernel_rfl) (fun c a w h => h) (yieldsIf_load (f := Value.bool) (l := ((zVars.set mz true).set my true)) (aggVarsL _ HL.out) (.tmp 2) rfl (w.heap.size + 1) 0 rfl (fun W' h => h.2.1.at) HCL.out rfl) hS ?_
  simp only [List.setIfInBounds_toArray, List.set_cons_succ, List.set_cons_zero]
  refine headsT_takeD (i := 1) (d := 33) (v := .bool true) (by kernel_rfl) rfl rfl (by omega) (by kernel_rfl) (by kernel_rfl) (fun c a w h => h) (yieldsIf_op rfl (fun w => by first | rfl | kernel_rfl | (go_simp; done))) hS ?_
  simp only [List.setIfInBounds_toArray, List.set_cons_succ, List.set_cons_zero]
  refine headsT_takeD (i := 2) (d := 34) (v := .bool true) (by kernel_rfl) rfl rfl (by omega) (by kernel_rfl) (by kernel_rfl) (fun c a w h => h) (yieldsIf_op rfl (fun w => by first | rfl | kernel_rfl | (go_simp; done))) hS ?_
  simp only [List.setIfInBounds_toArray, List.set_cons_succ, List.set_cons_zero]
  refine headsT_takeD (i := 3) (d := 35) (v := undef) (by kernel_rfl) rfl rfl (by omega) (by kernel_rfl) (by kernel_rfl) (fun c a w h => h) (yieldsIf_skip (by first | rfl | kernel_rfl)) hS ?_
  simp only [List.setIfInBounds_toArray, List.set_cons_succ, List.set_cons_zero]
  refine headsT_takeD (i := 4) (d := 36) (v := undef) (by kernel_rfl) rfl rfl (by omega) (by kernel_rfl) (by kernel_rfl) (fun c a w h => h) (yieldsIf_skip (by first | rfl | kernel_rfl)) hS ?_
  simp only [List.setIfInBounds_toArray, List.set_cons_succ, List.set_cons_zero]
  refine headsT_takeD (i := 5) (d := 37) (v := undef) (by kernel_rfl) rfl rfl (by omega) (by kernel_rfl) (by kernel_rfl) (fun c a w h => h) (yieldsIf_skip (by first | rfl | kernel_rfl)) hS ?_
  simp only [List.setIfInBounds_toArray, List.set_cons_succ, List.set_cons_zero]
  refine headsT_takeD (i := 6) (d := 38) (v := undef) (by kernel_rfl) rfl rfl (by omega) (by kernel_rfl) (by kernel_rfl) (fun c a w h => h) (yieldsIf_skip (by first | rfl | kernel_rfl)) hS ?_
  simp only [List.setIfInBounds_toArray, List.set_cons_succ, List.set_cons_zero]
  refine headsT_takeD (i := 7) (d := 39) (v := undef) (by kernel_rfl) rfl rfl (by omega) (by kernel_rfl) (by kernel_rfl) (fun c a w h => h) (yieldsIf_skip (by first | rfl | kernel_rfl)) hS ?_
  simp only [List.setIfInBounds_toArray, List.set_cons_succ, List.set_cons_zero]
  refine headsT_takeD (i := 8) (d := 40) (v := undef) (by kernel_rfl) rfl rfl (by omega) (by kernel_rfl) (by kernel_rfl) (fun c a w h => h) (yieldsIf_skip (by first | rfl | kernel_rfl)) hS ?_
  simp only [List.setIfInBounds_toArray, List.set_cons_succ, List.set_cons_zero]
  refine headsT_takeD (i := 9) (d := 41) (v := undef) (by kernel_rfl) rfl rfl (by omega) (by kernel_rfl) (by kernel_rfl) (fun c a w h => h) (yieldsIf_skip (by first | rfl | kernel_rfl)) hS ?_
  simp only [List.setIfInBounds_toArray, List.set_cons_succ, List.set_cons_zero]
  refine headsT_takeD (i := 10) (d := 42) (v := undef) (by kernel_rfl) rfl rfl (by omega) (by kernel_rfl) (by kernel_rfl) (fun c a w h => h) (yieldsIf_skip (by first | rfl | kernel_rfl)) hS ?_
  simp only [List.setIfInBounds_toArray, List.set_cons_succ, List.set_cons_zero]
  refine headsT_takeD (i := 11) (d := 43) (v := undef) (by kernel_rfl) rfl rfl (by omega) (by kernel_rfl) (by kernel_rfl) (fun c a w h => h) (yieldsIf_skip (by first | rfl | kernel_rfl)) hS ?_
  simp only [List.setIfInBounds_toArray, List.set_cons_succ, List.set_cons_zero]
  refine headsT_takeD (i := 12) (d := 44) (v := .bool true) (by kernel_rfl) rfl rfl (by omega) (by kernel_rfl) (by kernel_rfl) (fun c a w h => h) (yieldsIf_op rfl (fun w => by first | rfl | kernel_rfl | (go_simp; done))) hS ?_
  simp only [List.setIfInBounds_toArray, List.set_cons_succ, List.set_cons_zero]
  refine headsT_ready (rs := [13]) (by kernel_rfl) (by simp) (AllReadyT.cons (by omega) rfl (fun K' hK => ?_) AllReadyT.nil)
  refine storeH (f := Value.bool) (l := ((zVars.set mz true).set my true)) (l' := ((zVars.set mz true).set my true)) (t := 89) (C := CL) (aggVarsL _ HL.out) (.tmp 2) (.tmp 32) rfl rfl rfl (w.heap.size + 1) rfl HCL.out rfl hS.2.1 rfl bV_one ?_
  intro W7 hs7 hG7
  have hR7 := hS.1.grown hG7 (by intro e; injection e with e; omega)
  have hB7 := hS.2.2.grown hG7 (Nat.le_of_lt hS.1.lt) (fun k e => by cases e; omega)
  refine hK.out _ _ ⟨hR7, hs7, hB7⟩ fun _ => ?_
  clear hK hs5 hR5 hB2 hS hR7 hG7
  refine headsT_tail (by kernel_rfl) ?_
  simp only [List.drop]
  go_wp2_with fail
  refine bodyPost_ret (v := .tuple #[.agg ((((zVars.set mz true).set my true)).map Value.bool).toArray, .bool true]) (results_agg2 (f := Value.bool) (l := ((zVars.set mz true).set my true)) (t := 3) rfl _ (aggVarsL _ HL.out) (w.heap.size + 1) 0 rfl hs7.at) rfl ?_
  exact ⟨_, rfl, Lib.hid rfl, hB7⟩
end Go.Proofs.YtllomcmhkocdfaaGreatDoor

/- What statements set: operations, trims, numbers, matches. -/
namespace Go.Proofs.YtllomcmhkocdfaaGreatDoor
open Go.RowKit Mem
set_option maxRecDepth 100000

set_option maxHeartbeats 8000000 in
theorem rSets_7 (w : World) (x : Int) (y : Int) (k0 : Int) (k1 : Int) (k2 : Int) (k3 : Int) (hy : 1 ≤ y ∧ y ≤ 11) (C : Array Value) (HC : Hid (C = ((stTrim x y k0 k1 k2 k3).cs.map oV).toArray)) :
    Calls Tryz.prog 28 #[.agg C] w fun e w' => ∃ C', e = .returned (.tuple #[.agg C', .bool (flB (stTrim x y k0 k1 k2 k3))]) ∧ Hid (C' = ((svV (stTrim x y k0 k1 k2 k3)).map Value.bool).toArray) ∧ Below w.heap.size w w' := by
  go_enter Tryz.func28, Tryz.ntmps28
  go_upto_region 1 with (fail)
  obtain ⟨W, hW, hR, hZ, hB, hs⟩ : ∃ W, (w.alloc (.cells C 45)).alloc (.cells zVarsC 89) = W ∧ Row oV W w.heap.size 45 (stTrim x y k0 k1 k2 k3).cs ∧ Row Value.bool W (w.heap.size + 1) 89 zVars ∧ Below w.heap.size w W ∧ w.heap.size + 2 ≤ W.heap.size := by
    refine ⟨_, rfl, Row.alloc (Row.new w _ (by rw [HC.out])) _, heap_new' _ _ _ (by simp), ((Below.refl _ _).alloc (Nat.le_refl _) _).alloc (by simp) _, by simp⟩
  rw [hW]
  clear hW
  obtain ⟨my, rfl⟩ := Int.eq_ofNat_of_zero_le (show 0 ≤ y by omega)
  have qy1 : (my : Int) < 16 := by omega
  have qy2 : (0 : Int) ≤ (my : Int) := by omega
  have qy3 : my < 16 := by omega
  have c0 : W.cell? ⟨w.heap.size, 0, none⟩ = some (.int .i64 7) := by rw [hR.cell?]; rfl
  have c2 : W.cell? ⟨w.heap.size, 2, none⟩ = some (.int .i64 (my : Int)) := by rw [hR.cell?]; rfl
  have dy : W.cell? ⟨w.heap.size + 1, my, none⟩ = some (.bool (zVars[my]'(by simpa using qy3))) := by rw [hZ.cell?, List.getElem?_eq_getElem (by simpa using qy3)]; rfl
  have fy := hZ.frozen my
  have HR := Lib.hid (And.intro hR hZ)
  clear hR hZ hy
  go_upto_region 16 with (fail)
  have hs5 := (HR.out.2.set my true)
  have hR5 := (HR.out.1.set_other (b' := w.heap.size + 1) (by omega) my (.bool true))
  have hB2 := (below_set hB (b := w.heap.size + 1) my (by omega) (.bool true))
  generalize (W.setCell ⟨w.heap.size + 1, my, none⟩ (.bool true)) = W5 at hs5 hR5 hB2 ⊢
  have HL : Hid ((zVars.set my true).length = 16) := Lib.hid (by simp)
  clear HR hB hs c0 c2 dy fy
  obtain ⟨CL, HCL⟩ : ∃ CL, Hid (CL = (((zVars.set my true)).map Value.bool).toArray) := ⟨_, Lib.hid rfl⟩
  have hlt5 := hR5.lt
  refine region_headsT (S := fun X => Row oV X w.heap.size 45 (stTrim x (my : Int) k0 k1 k2 k3).cs ∧ Row Value.bool X (w.heap.size + 1) 89 ((zVars.set my true)) ∧ Below w.heap.size w X) 14 rfl (by kernel_rfl) ⟨hR5, hs5, ⟨hB2.os, hB2.tape, hB2.output, hB2.size, hB2.block⟩⟩ fun hS => ?_
  refine headsT_takeD (i := 0) (d := 32) (v := .agg CL) (by kernel_rfl) rfl rfl (by omega) (by kernel_rfl) (by kernel_rfl) (fun c a w h => h) (yieldsIf_load (f := Value.bool) (l := (zVars.set my true)) (aggVarsL _ HL.out) (.tmp 2) rfl (w.heap.size + 1) 0 rfl (fun W' h => h.2.1.at) HCL.out rfl) hS ?_
  simp only [List.setIfInBounds_toArray, List.set_cons_succ, List.set_cons_zero]
  refine headsT_takeD (i := 1) (d := 33) (v := .bool false) (by kernel_rfl) rfl rfl (by omega) (by kernel_rfl) (by kernel_rfl) (fun c a w h => h) (yieldsIf_op rfl (fun w => by first | rfl | kernel_rfl | (go_simp; done))) hS ?_
  simp only [List.setIfInBounds_toArray, List.set_cons_succ, List.set_cons_zero]
  refine headsT_takeD (i := 2) (d := 34) (v := .bool false) (by kernel_rfl) rfl rfl (by omega) (by kernel_rfl) (by kernel_rfl) (fun c a w h => h) (yieldsIf_op rfl (fun w => by first | rfl | kernel_rfl | (go_simp; done))) hS ?_
  simp only [List.setIfInBounds_toArray, List.set_cons_succ, List.set_cons_zero]
  refine headsT_takeD (i := 3) (d := 35) (v := .pointer (some ⟨w.heap.size, 0, none⟩)) (by kernel_rfl) rfl rfl (by omega) (by kernel_rfl) (by kernel_rfl) (fun c a w h => h) (yieldsIf_op rfl (fun w => by first | rfl | kernel_rfl | (go_simp; done))) hS ?_
  simp only [List.setIfInBounds_toArray, List.set_cons_succ, List.set_cons_zero]
  refine headsT_takeD (i := 4) (d := 36) (v := .int .i64 7) (by kernel_rfl) rfl rfl (by omega) (by kernel_rfl) (by kernel_rfl) (fun c a w h => h) (.inl ⟨by first | rfl | kernel_rfl, fun W' h => by have q0 : W'.cell? ⟨w.heap.size, 0, none⟩ = some (.int .i64 7) := (by rw [h.1.cell?]; rfl); go_simp⟩) hS ?_
  simp only [List.setIfInBounds_toArray, List.set_cons_succ, List.set_cons_zero]
  refine headsT_takeD (i := 5) (d := 37) (v := .bool false) (by kernel_rfl) rfl rfl (by omega) (by kernel_rfl) (by kernel_rfl) (fun c a w h => h) (yieldsIf_op rfl (fun w => by first | rfl | kernel_rfl | (go_simp; done))) hS ?_
  simp only [List.setIfInBounds_toArray, List.set_cons_succ, List.set_cons_zero]
  refine headsT_takeD (i := 6) (d := 38) (v := .bool false) (by kernel_rfl) rfl rfl (by omega) (by kernel_rfl) (by kernel_rfl) (fun c a w h => h) (yieldsIf_op rfl (fun w => by first | rfl | kernel_rfl | (go_simp; done))) hS ?_
  simp only [List.setIfInBounds_toArray, List.set_cons_succ, List.set_cons_zero]
  refine headsT_takeD (i := 7) (d := 39) (v := undef) (by kernel_rfl) rfl rfl (by omega) (by kernel_rfl) (by kernel_rfl) (fun c a w h => h) (yieldsIf_skip (by first | rfl | kernel_rfl)) hS ?_
  simp only [List.setIfInBounds_toArray, List.set_cons_succ, List.set_cons_zero]
  refine headsT_takeD (i := 8) (d := 40) (v := undef) (by kernel_rfl) rfl rfl (by omega) (by kernel_rfl) (by kernel_rfl) (fun c a w h => h) (yieldsIf_skip (by first | rfl | kernel_rfl)) hS ?_
  simp only [List.setIfInBounds_toArray, List.set_cons_succ, List.set_cons_zero]
  refine headsT_takeD (i := 9) (d := 41) (v := undef) (by kernel_rfl) rfl rfl (by omega) (by kernel_rfl) (by kernel_rfl) (fun c a w h => h) (yieldsIf_skip (by first | rfl | kernel_rfl)) hS ?_
  simp only [List.setIfInBounds_toArray, List.set_cons_succ, List.set_cons_zero]
  refine headsT_takeD (i := 10) (d := 42) (v := undef) (by kernel_rfl) rfl rfl (by omega) (by kernel_rfl) (by kernel_rfl) (fun c a w h => h) (yieldsIf_skip (by first | rfl | kernel_rfl)) hS ?_
  simp only [List.setIfInBounds_toArray, List.set_cons_succ, List.set_cons_zero]
  refine headsT_takeD (i := 11) (d := 43) (v := .bool false) (by kernel_rfl) rfl rfl (by omega) (by kernel_rfl) (by kernel_rfl) (fun c a w h => h) (yieldsIf_op rfl (fun w => by first | rfl | kernel_rfl | (go_simp; done))) hS ?_
  simp only [List.setIfInBounds_toArray, List.set_cons_succ, List.set_cons_zero]
  refine headsT_takeD (i := 12) (d := 44) (v := .bool false) (by kernel_rfl) rfl rfl (by omega) (by kernel_rfl) (by kernel_rfl) (fun c a w h => h) (yieldsIf_op rfl (fun w => by first | rfl | kernel_rfl | (go_simp; done))) hS ?_
  simp only [List.setIfInBounds_toArray, List.set_cons_succ, List.set_cons_zero]
  refine headsT_ready (rs := [13]) (by kernel_rfl) (by simp) (AllReadyT.cons (by omega) rfl (fun K' hK => ?_) AllReadyT.nil)
  refine storeH (f := Value.bool) (l := (zVars.set my true)) (l' := (zVars.set my true)) (t := 89) (C := CL) (aggVarsL _ HL.out) (.tmp 2) (.tmp 32) rfl rfl rfl (w.heap.size + 1) rfl HCL.out rfl hS.2.1 rfl bV_one ?_
  intro W7 hs7 hG7
  have hR7 := hS.1.grown hG7 (by intro e; injection e with e; omega)
  have hB7 := hS.2.2.grown hG7 (Nat.le_of_lt hS.1.lt) (fun k e => by cases e; omega)
  refine hK.out _ _ ⟨hR7, hs7, hB7⟩ fun _ => ?_
  clear hK hs5 hR5 hB2 hS hR7 hG7
  refine headsT_tail (by kernel_rfl) ?_
  simp only [List.drop]
  go_wp2_with fail
  refine bodyPost_ret (v := .tuple #[.agg (((zVars.set my true)).map Value.bool).toArray, .bool false]) (results_agg2 (f := Value.bool) (l := (zVars.set my true)) (t := 3) rfl _ (aggVarsL _ HL.out) (w.heap.size + 1) 0 rfl hs7.at) rfl ?_
  exact ⟨_, rfl, Lib.hid rfl, hB7⟩
end Go.Proofs.YtllomcmhkocdfaaGreatDoor

/- What statements set: tests, loops, breaks, fields, ends. -/
namespace Go.Proofs.YtllomcmhkocdfaaGreatDoor
open Go.RowKit Mem
set_option maxRecDepth 100000

set_option maxHeartbeats 8000000 in
theorem rSets_11 (w : World) (i : Int) (j : Int) (thn : Int) (C : Array Value) (HC : Hid (C = ((stLoop i j thn).cs.map oV).toArray)) :
    Calls Tryz.prog 28 #[.agg C] w fun e w' => ∃ C', e = .returned (.tuple #[.agg C', .bool (flB (stLoop i j thn))]) ∧ Hid (C' = ((svV (stLoop i j thn)).map Value.bool).toArray) ∧ Below w.heap.size w w' := by
  go_enter Tryz.func28, Tryz.ntmps28
  go_upto_region 1 with (fail)
  obtain ⟨W, hW, hR, hZ, hB, hs⟩ : ∃ W, (w.alloc (.cells C 45)).alloc (.cells zVarsC 89) = W ∧ Row oV W w.heap.size 45 (stLoop i j thn).cs ∧ Row Value.bool W (w.heap.size + 1) 89 zVars ∧ Below w.heap.size w W ∧ w.heap.size + 2 ≤ W.heap.size := by
    refine ⟨_, rfl, Row.alloc (Row.new w _ (by rw [HC.out])) _, heap_new' _ _ _ (by simp), ((Below.refl _ _).alloc (Nat.le_refl _) _).alloc (by simp) _, by simp⟩
  rw [hW]
  clear hW
  have c0 : W.cell? ⟨w.heap.size, 0, none⟩ = some (.int .i64 11) := by rw [hR.cell?]; rfl
  have HR := Lib.hid (And.intro hR hZ)
  clear hR hZ
  go_upto_region 16 with (fail)
  have hs5 := HR.out.2
  have hR5 := HR.out.1
  have hB2 := hB
  have HL : Hid (zVars.length = 16) := Lib.hid rfl
  clear HR hB c0
  obtain ⟨W5, rfl⟩ : ∃ x, x = W := ⟨_, rfl⟩
  obtain ⟨CL, HCL⟩ : ∃ CL, Hid (CL = ((zVars).map Value.bool).toArray) := ⟨_, Lib.hid rfl⟩
  have hlt5 := hR5.lt
  refine region_headsT (S := fun X => Row oV X w.heap.size 45 (stLoop i j thn).cs ∧ Row Value.bool X (w.heap.size + 1) 89 (zVars) ∧ Below w.heap.size w X) 14 rfl (by kernel_rfl) ⟨hR5, hs5, ⟨hB2.os, hB2.tape, hB2.output, hB2.size, hB2.block⟩⟩ fun hS => ?_
  refine headsT_takeD (i := 0) (d := 32) (v := .agg CL) (by kernel_rfl) rfl rfl (by omega) (by kernel_rfl) (by kernel_rfl) (fun c a w h => h) (yieldsIf_load (f := Value.bool) (l := zVars) (aggVarsL _ HL.out) (.tmp 2) rfl (w.heap.size + 1) 0 rfl (fun W' h => h.2.1.at) HCL.out rfl) hS ?_
  simp only [List.setIfInBounds_toArray, List.set_cons_succ, List.set_cons_zero]
  refine headsT_takeD (i := 1) (d := 33) (v := .bool false) (by kernel_rfl) rfl rfl (by omega) (by kernel_rfl) (by kernel_rfl) (fun c a w h => h) (yieldsIf_op rfl (fun w => by first | rfl | kernel_rfl | (go_simp; done))) hS ?_
  simp only [List.setIfInBounds_toArray, List.set_cons_succ, List.set_cons_zero]
  refine headsT_takeD (i := 2) (d := 34) (v := .bool false) (by kernel_rfl) rfl rfl (by omega) (by kernel_rfl) (by kernel_rfl) (fun c a w h => h) (yieldsIf_op rfl (fun w => by first | rfl | kernel_rfl | (go_simp; done))) hS ?_
  simp only [List.setIfInBounds_toArray, List.set_cons_succ, List.set_cons_zero]
  refine headsT_takeD (i := 3) (d := 35) (v := .pointer (some ⟨w.heap.size, 0, none⟩)) (by kernel_rfl) rfl rfl (by omega) (by kernel_rfl) (by kernel_rfl) (fun c a w h => h) (yieldsIf_op rfl (fun w => by first | rfl | kernel_rfl | (go_simp; done))) hS ?_
  simp only [List.setIfInBounds_toArray, List.set_cons_succ, List.set_cons_zero]
  refine headsT_takeD (i := 4) (d := 36) (v := .int .i64 11) (by kernel_rfl) rfl rfl (by omega) (by kernel_rfl) (by kernel_rfl) (fun c a w h => h) (.inl ⟨by first | rfl | kernel_rfl, fun W' h => by have q0 : W'.cell? ⟨w.heap.size, 0, none⟩ = some (.int .i64 11) := (by rw [h.1.cell?]; rfl); go_simp⟩) hS ?_
  simp only [List.setIfInBounds_toArray, List.set_cons_succ, List.set_cons_zero]
  refine headsT_takeD (i := 5) (d := 37) (v := .bool false) (by kernel_rfl) rfl rfl (by omega) (by kernel_rfl) (by kernel_rfl) (fun c a w h => h) (yieldsIf_op rfl (fun w => by first | rfl | kernel_rfl | (go_simp; done))) hS ?_
  simp only [List.setIfInBounds_toArray, List.set_cons_succ, List.set_cons_zero]
  refine headsT_takeD (i := 6) (d := 38) (v := .bool false) (by kernel_rfl) rfl rfl (by omega) (by kernel_rfl) (by kernel_rfl) (fun c a w h => h) (yieldsIf_op rfl (fun w => by first | rfl | kernel_rfl | (go_simp; done))) hS ?_
  simp only [List.setIfInBounds_toArray, List.set_cons_succ, List.set_cons_zero]
  refine headsT_takeD (i := 7) (d := 39) (v := undef) (by kernel_rfl) rfl rfl (by omega) (by kernel_rfl) (by kernel_rfl) (fun c a w h => h) (yieldsIf_skip (by first | rfl | kernel_rfl)) hS ?_
  simp only [List.setIfInBounds_toArray, List.set_cons_succ, List.set_cons_zero]
  refine headsT_takeD (i := 8) (d := 40) (v := undef) (by kernel_rfl) rfl rfl (by omega) (by kernel_rfl) (by kernel_rfl) (fun c a w h => h) (yieldsIf_skip (by first | rfl | kernel_rfl)) hS ?_
  simp only [List.setIfInBounds_toArray, List.set_cons_succ, List.set_cons_zero]
  refine headsT_takeD (i := 9) (d := 41) (v := undef) (by kernel_rfl) rfl rfl (by omega) (by kernel_rfl) (by kernel_rfl) (fun c a w h => h) (yieldsIf_skip (by first | rfl | kernel_rfl)) hS ?_
  simp only [List.setIfInBounds_toArray, List.set_cons_succ, List.set_cons_zero]
  refine headsT_takeD (i := 10) (d := 42) (v := undef) (by kernel_rfl) rfl rfl (by omega) (by kernel_rfl) (by kernel_rfl) (fun c a w h => h) (yieldsIf_skip (by first | rfl | kernel_rfl)) hS ?_
  simp only [List.setIfInBounds_toArray, List.set_cons_succ, List.set_cons_zero]
  refine headsT_takeD (i := 11) (d := 43) (v := .bool false) (by kernel_rfl) rfl rfl (by omega) (by kernel_rfl) (by kernel_rfl) (fun c a w h => h) (yieldsIf_op rfl (fun w => by first | rfl | kernel_rfl | (go_simp; done))) hS ?_
  simp only [List.setIfInBounds_toArray, List.set_cons_succ, List.set_cons_zero]
  refine headsT_takeD (i := 12) (d := 44) (v := .bool false) (by kernel_rfl) rfl rfl (by omega) (by kernel_rfl) (by kernel_rfl) (fun c a w h => h) (yieldsIf_op rfl (fun w => by first | rfl | kernel_rfl | (go_simp; done))) hS ?_
  simp only [List.setIfInBounds_toArray, List.set_cons_succ, List.set_cons_zero]
  refine headsT_ready (rs := [13]) (by kernel_rfl) (by simp) (AllReadyT.cons (by omega) rfl (fun K' hK => ?_) AllReadyT.nil)
  refine storeH (f := Value.bool) (l := zVars) (l' := zVars) (t := 89) (C := CL) (aggVarsL _ HL.out) (.tmp 2) (.tmp 32) rfl rfl rfl (w.heap.size + 1) rfl HCL.out rfl hS.2.1 rfl bV_one ?_
  intro W7 hs7 hG7
  have hR7 := hS.1.grown hG7 (by intro e; injection e with e; omega)
  have hB7 := hS.2.2.grown hG7 (Nat.le_of_lt hS.1.lt) (fun k e => by cases e; omega)
  refine hK.out _ _ ⟨hR7, hs7, hB7⟩ fun _ => ?_
  clear hK hs5 hR5 hB2 hS hR7 hG7
  refine headsT_tail (by kernel_rfl) ?_
  simp only [List.drop]
  go_wp2_with fail
  refine bodyPost_ret (v := .tuple #[.agg ((zVars).map Value.bool).toArray, .bool false]) (results_agg2 (f := Value.bool) (l := zVars) (t := 3) rfl _ (aggVarsL _ HL.out) (w.heap.size + 1) 0 rfl hs7.at) rfl ?_
  exact ⟨_, rfl, Lib.hid rfl, hB7⟩
set_option maxHeartbeats 8000000 in
theorem rSets_12 (w : World) (C : Array Value) (HC : Hid (C = (stBreak.cs.map oV).toArray)) :
    Calls Tryz.prog 28 #[.agg C] w fun e w' => ∃ C', e = .returned (.tuple #[.agg C', .bool (flB stBreak)]) ∧ Hid (C' = ((svV stBreak).map Value.bool).toArray) ∧ Below w.heap.size w w' := by
  go_enter Tryz.func28, Tryz.ntmps28
  go_upto_region 1 with (fail)
  obtain ⟨W, hW, hR, hZ, hB, hs⟩ : ∃ W, (w.alloc (.cells C 45)).alloc (.cells zVarsC 89) = W ∧ Row oV W w.heap.size 45 stBreak.cs ∧ Row Value.bool W (w.heap.size + 1) 89 zVars ∧ Below w.heap.size w W ∧ w.heap.size + 2 ≤ W.heap.size := by
    refine ⟨_, rfl, Row.alloc (Row.new w _ (by rw [HC.out])) _, heap_new' _ _ _ (by simp), ((Below.refl _ _).alloc (Nat.le_refl _) _).alloc (by simp) _, by simp⟩
  rw [hW]
  clear hW
  have c0 : W.cell? ⟨w.heap.size, 0, none⟩ = some (.int .i64 12) := by rw [hR.cell?]; rfl
  have HR := Lib.hid (And.intro hR hZ)
  clear hR hZ
  go_upto_region 16 with (fail)
  have hs5 := HR.out.2
  have hR5 := HR.out.1
  have hB2 := hB
  have HL : Hid (zVars.length = 16) := Lib.hid rfl
  clear HR hB c0
  obtain ⟨W5, rfl⟩ : ∃ x, x = W := ⟨_, rfl⟩
  obtain ⟨CL, HCL⟩ : ∃ CL, Hid (CL = ((zVars).map Value.bool).toArray) := ⟨_, Lib.hid rfl⟩
  have hlt5 := hR5.lt
  refine region_headsT (S := fun X => Row oV X w.heap.size 45 stBreak.cs ∧ Row Value.bool X (w.heap.size + 1) 89 (zVars) ∧ Below w.heap.size w X) 14 rfl (by kernel_rfl) ⟨hR5, hs5, ⟨hB2.os, hB2.tape, hB2.output, hB2.size, hB2.block⟩⟩ fun hS => ?_
  refine headsT_takeD (i := 0) (d := 32) (v := .agg CL) (by kernel_rfl) rfl rfl (by omega) (by kernel_rfl) (by kernel_rfl) (fun c a w h => h) (yieldsIf_load (f := Value.bool) (l := zVars) (aggVarsL _ HL.out) (.tmp 2) rfl (w.heap.size + 1) 0 rfl (fun W' h => h.2.1.at) HCL.out rfl) hS ?_
  simp only [List.setIfInBounds_toArray, List.set_cons_succ, List.set_cons_zero]
  refine headsT_takeD (i := 1) (d := 33) (v := .bool false) (by kernel_rfl) rfl rfl (by omega) (by kernel_rfl) (by kernel_rfl) (fun c a w h => h) (yieldsIf_op rfl (fun w => by first | rfl | kernel_rfl | (go_simp; done))) hS ?_
  simp only [List.setIfInBounds_toArray, List.set_cons_succ, List.set_cons_zero]
  refine headsT_takeD (i := 2) (d := 34) (v := .bool false) (by kernel_rfl) rfl rfl (by omega) (by kernel_rfl) (by kernel_rfl) (fun c a w h => h) (yieldsIf_op rfl (fun w => by first | rfl | kernel_rfl | (go_simp; done))) hS ?_
  simp only [List.setIfInBounds_toArray, List.set_cons_succ, List.set_cons_zero]
  refine headsT_takeD (i := 3) (d := 35) (v := .pointer (some ⟨w.heap.size, 0, none⟩)) (by kernel_rfl) rfl rfl (by omega) (by kernel_rfl) (by kernel_rfl) (fun c a w h => h) (yieldsIf_op rfl (fun w => by first | rfl | kernel_rfl | (go_simp; done))) hS ?_
  simp only [List.setIfInBounds_toArray, List.set_cons_succ, List.set_cons_zero]
  refine headsT_takeD (i := 4) (d := 36) (v := .int .i64 12) (by kernel_rfl) rfl rfl (by omega) (by kernel_rfl) (by kernel_rfl) (fun c a w h => h) (.inl ⟨by first | rfl | kernel_rfl, fun W' h => by have q0 : W'.cell? ⟨w.heap.size, 0, none⟩ = some (.int .i64 12) := (by rw [h.1.cell?]; rfl); go_simp⟩) hS ?_
  simp only [List.setIfInBounds_toArray, List.set_cons_succ, List.set_cons_zero]
  refine headsT_takeD (i := 5) (d := 37) (v := .bool false) (by kernel_rfl) rfl rfl (by omega) (by kernel_rfl) (by kernel_rfl) (fun c a w h => h) (yieldsIf_op rfl (fun w => by first | rfl | kernel_rfl | (go_simp; done))) hS ?_
  simp only [List.setIfInBounds_toArray, List.set_cons_succ, List.set_cons_zero]
  refine headsT_takeD (i := 6) (d := 38) (v := .bool false) (by kernel_rfl) rfl rfl (by omega) (by kernel_rfl) (by kernel_rfl) (fun c a w h => h) (yieldsIf_op rfl (fun w => by first | rfl | kernel_rfl | (go_simp; done))) hS ?_
  simp only [List.setIfInBounds_toArray, List.set_cons_succ, List.set_cons_zero]
  refine headsT_takeD (i := 7) (d := 39) (v := undef) (by kernel_rfl) rfl rfl (by omega) (by kernel_rfl) (by kernel_rfl) (fun c a w h => h) (yieldsIf_skip (by first | rfl | kernel_rfl)) hS ?_
  simp only [List.setIfInBounds_toArray, List.set_cons_succ, List.set_cons_zero]
  refine headsT_takeD (i := 8) (d := 40) (v := undef) (by kernel_rfl) rfl rfl (by omega) (by kernel_rfl) (by kernel_rfl) (fun c a w h => h) (yieldsIf_skip (by first | rfl | kernel_rfl)) hS ?_
  simp only [List.setIfInBounds_toArray, List.set_cons_succ, List.set_cons_zero]
  refine headsT_takeD (i := 9) (d := 41) (v := undef) (by kernel_rfl) rfl rfl (by omega) (by kernel_rfl) (by kernel_rfl) (fun c a w h => h) (yieldsIf_skip (by first | rfl | kernel_rfl)) hS ?_
  simp only [List.setIfInBounds_toArray, List.set_cons_succ, List.set_cons_zero]
  refine headsT_takeD (i := 10) (d := 42) (v := undef) (by kernel_rfl) rfl rfl (by omega) (by kernel_rfl) (by kernel_rfl) (fun c a w h => h) (yieldsIf_skip (by first | rfl | kernel_rfl)) hS ?_
  simp only [List.setIfInBounds_toArray, List.set_cons_succ, List.set_cons_zero]
  refine headsT_takeD (i := 11) (d := 43) (v := .bool false) (by kernel_rfl) rfl rfl (by omega) (by kernel_rfl) (by kernel_rfl) (fun c a w h => h) (yieldsIf_op rfl (fun w => by first | rfl | kernel_rfl | (go_simp; done))) hS ?_
  simp only [List.setIfInBounds_toArray, List.set_cons_succ, List.set_cons_zero]
  refine headsT_takeD (i := 12) (d := 44) (v := .bool false) (by kernel_rfl) rfl rfl (by omega) (by kernel_rfl) (by kernel_rfl) (fun c a w h => h) (yieldsIf_op rfl (fun w => by first | rfl | kernel_rfl | (go_simp; done))) hS ?_
  simp only [List.setIfInBounds_toArray, List.set_cons_succ, List.set_cons_zero]
  refine headsT_ready (rs := [13]) (by kernel_rfl) (by simp) (AllReadyT.cons (by omega) rfl (fun K' hK => ?_) AllReadyT.nil)
  refine storeH (f := Value.bool) (l := zVars) (l' := zVars) (t := 89) (C := CL) (aggVarsL _ HL.out) (.tmp 2) (.tmp 32) rfl rfl rfl (w.heap.size + 1) rfl HCL.out rfl hS.2.1 rfl bV_one ?_
  intro W7 hs7 hG7
  have hR7 := hS.1.grown hG7 (by intro e; injection e with e; omega)
  have hB7 := hS.2.2.grown hG7 (Nat.le_of_lt hS.1.lt) (fun k e => by cases e; omega)
  refine hK.out _ _ ⟨hR7, hs7, hB7⟩ fun _ => ?_
  clear hK hs5 hR5 hB2 hS hR7 hG7
  refine headsT_tail (by kernel_rfl) ?_
  simp only [List.drop]
  go_wp2_with fail
  refine bodyPost_ret (v := .tuple #[.agg ((zVars).map Value.bool).toArray, .bool false]) (results_agg2 (f := Value.bool) (l := zVars) (t := 3) rfl _ (aggVarsL _ HL.out) (w.heap.size + 1) 0 rfl hs7.at) rfl ?_
  exact ⟨_, rfl, Lib.hid rfl, hB7⟩
set_option maxHeartbeats 8000000 in
theorem rSets_13 (w : World) (x : Int) (nm : ByteArray) (C : Array Value) (HC : Hid (C = ((stField x nm).cs.map oV).toArray)) :
    Calls Tryz.prog 28 #[.agg C] w fun e w' => ∃ C', e = .returned (.tuple #[.agg C', .bool (flB (stField x nm))]) ∧ Hid (C' = ((svV (stField x nm)).map Value.bool).toArray) ∧ Below w.heap.size w w' := by
  go_enter Tryz.func28, Tryz.ntmps28
  go_upto_region 1 with (fail)
  obtain ⟨W, hW, hR, hZ, hB, hs⟩ : ∃ W, (w.alloc (.cells C 45)).alloc (.cells zVarsC 89) = W ∧ Row oV W w.heap.size 45 (stField x nm).cs ∧ Row Value.bool W (w.heap.size + 1) 89 zVars ∧ Below w.heap.size w W ∧ w.heap.size + 2 ≤ W.heap.size := by
    refine ⟨_, rfl, Row.alloc (Row.new w _ (by rw [HC.out])) _, heap_new' _ _ _ (by simp), ((Below.refl _ _).alloc (Nat.le_refl _) _).alloc (by simp) _, by simp⟩
  rw [hW]
  clear hW
  have c0 : W.cell? ⟨w.heap.size, 0, none⟩ = some (.int .i64 13) := by rw [hR.cell?]; rfl
  have HR := Lib.hid (And.intro hR hZ)
  clear hR hZ
  go_upto_region 16 with (fail)
  have hs5 := HR.out.2
  have hR5 := HR.out.1
  have hB2 := hB
  have HL : Hid (zVars.length = 16) := Lib.hid rfl
  clear HR hB c0
  obtain ⟨W5, rfl⟩ : ∃ x, x = W := ⟨_, rfl⟩
  obtain ⟨CL, HCL⟩ : ∃ CL, Hid (CL = ((zVars).map Value.bool).toArray) := ⟨_, Lib.hid rfl⟩
  have hlt5 := hR5.lt
  refine region_headsT (S := fun X => Row oV X w.heap.size 45 (stField x nm).cs ∧ Row Value.bool X (w.heap.size + 1) 89 (zVars) ∧ Below w.heap.size w X) 14 rfl (by kernel_rfl) ⟨hR5, hs5, ⟨hB2.os, hB2.tape, hB2.output, hB2.size, hB2.block⟩⟩ fun hS => ?_
  refine headsT_takeD (i := 0) (d := 32) (v := .agg CL) (by kernel_rfl) rfl rfl (by omega) (by kernel_rfl) (by kernel_rfl) (fun c a w h => h) (yieldsIf_load (f := Value.bool) (l := zVars) (aggVarsL _ HL.out) (.tmp 2) rfl (w.heap.size + 1) 0 rfl (fun W' h => h.2.1.at) HCL.out rfl) hS ?_
  simp only [List.setIfInBounds_toArray, List.set_cons_succ, List.set_cons_zero]
  refine headsT_takeD (i := 1) (d := 33) (v := .bool false) (by kernel_rfl) rfl rfl (by omega) (by kernel_rfl) (by kernel_rfl) (fun c a w h => h) (yieldsIf_op rfl (fun w => by first | rfl | kernel_rfl | (go_simp; done))) hS ?_
  simp only [List.setIfInBounds_toArray, List.set_cons_succ, List.set_cons_zero]
  refine headsT_takeD (i := 2) (d := 34) (v := .bool false) (by kernel_rfl) rfl rfl (by omega) (by kernel_rfl) (by kernel_rfl) (fun c a w h => h) (yieldsIf_op rfl (fun w => by first | rfl | kernel_rfl | (go_simp; done))) hS ?_
  simp only [List.setIfInBounds_toArray, List.set_cons_succ, List.set_cons_zero]
  refine headsT_takeD (i := 3) (d := 35) (v := .pointer (some ⟨w.heap.size, 0, none⟩)) (by kernel_rfl) rfl rfl (by omega) (by kernel_rfl) (by kernel_rfl) (fun c a w h => h) (yieldsIf_op rfl (fun w => by first | rfl | kernel_rfl | (go_simp; done))) hS ?_
  simp only [List.setIfInBounds_toArray, List.set_cons_succ, List.set_cons_zero]
  refine headsT_takeD (i := 4) (d := 36) (v := .int .i64 13) (by kernel_rfl) rfl rfl (by omega) (by kernel_rfl) (by kernel_rfl) (fun c a w h => h) (.inl ⟨by first | rfl | kernel_rfl, fun W' h => by have q0 : W'.cell? ⟨w.heap.size, 0, none⟩ = some (.int .i64 13) := (by rw [h.1.cell?]; rfl); go_simp⟩) hS ?_
  simp only [List.setIfInBounds_toArray, List.set_cons_succ, List.set_cons_zero]
  refine headsT_takeD (i := 5) (d := 37) (v := .bool false) (by kernel_rfl) rfl rfl (by omega) (by kernel_rfl) (by kernel_rfl) (fun c a w h => h) (yieldsIf_op rfl (fun w => by first | rfl | kernel_rfl | (go_simp; done))) hS ?_
  simp only [List.setIfInBounds_toArray, List.set_cons_succ, List.set_cons_zero]
  refine headsT_takeD (i := 6) (d := 38) (v := .bool false) (by kernel_rfl) rfl rfl (by omega) (by kernel_rfl) (by kernel_rfl) (fun c a w h => h) (yieldsIf_op rfl (fun w => by first | rfl | kernel_rfl | (go_simp; done))) hS ?_
  simp only [List.setIfInBounds_toArray, List.set_cons_succ, List.set_cons_zero]
  refine headsT_takeD (i := 7) (d := 39) (v := undef) (by kernel_rfl) rfl rfl (by omega) (by kernel_rfl) (by kernel_rfl) (fun c a w h => h) (yieldsIf_skip (by first | rfl | kernel_rfl)) hS ?_
  simp only [List.setIfInBounds_toArray, List.set_cons_succ, List.set_cons_zero]
  refine headsT_takeD (i := 8) (d := 40) (v := undef) (by kernel_rfl) rfl rfl (by omega) (by kernel_rfl) (by kernel_rfl) (fun c a w h => h) (yieldsIf_skip (by first | rfl | kernel_rfl)) hS ?_
  simp only [List.setIfInBounds_toArray, List.set_cons_succ, List.set_cons_zero]
  refine headsT_takeD (i := 9) (d := 41) (v := undef) (by kernel_rfl) rfl rfl (by omega) (by kernel_rfl) (by kernel_rfl) (fun c a w h => h) (yieldsIf_skip (by first | rfl | kernel_rfl)) hS ?_
  simp only [List.setIfInBounds_toArray, List.set_cons_succ, List.set_cons_zero]
  refine headsT_takeD (i := 10) (d := 42) (v := undef) (by kernel_rfl) rfl rfl (by omega) (by kernel_rfl) (by kernel_rfl) (fun c a w h => h) (yieldsIf_skip (by first | rfl | kernel_rfl)) hS ?_
  simp only [List.setIfInBounds_toArray, List.set_cons_succ, List.set_cons_zero]
  refine headsT_takeD (i := 11) (d := 43) (v := .bool false) (by kernel_rfl) rfl rfl (by omega) (by kernel_rfl) (by kernel_rfl) (fun c a w h => h) (yieldsIf_op rfl (fun w => by first | rfl | kernel_rfl | (go_simp; done))) hS ?_
  simp only [List.setIfInBounds_toArray, List.set_cons_succ, List.set_cons_zero]
  refine headsT_takeD (i := 12) (d := 44) (v := .bool false) (by kernel_rfl) rfl rfl (by omega) (by kernel_rfl) (by kernel_rfl) (fun c a w h => h) (yieldsIf_op rfl (fun w => by first | rfl | kernel_rfl | (go_simp; done))) hS ?_
  simp only [List.setIfInBounds_toArray, List.set_cons_succ, List.set_cons_zero]
  refine headsT_ready (rs := [13]) (by kernel_rfl) (by simp) (AllReadyT.cons (by omega) rfl (fun K' hK => ?_) AllReadyT.nil)
  refine storeH (f := Value.bool) (l := zVars) (l' := zVars) (t := 89) (C := CL) (aggVarsL _ HL.out) (.tmp 2) (.tmp 32) rfl rfl rfl (w.heap.size + 1) rfl HCL.out rfl hS.2.1 rfl bV_one ?_
  intro W7 hs7 hG7
  have hR7 := hS.1.grown hG7 (by intro e; injection e with e; omega)
  have hB7 := hS.2.2.grown hG7 (Nat.le_of_lt hS.1.lt) (fun k e => by cases e; omega)
  refine hK.out _ _ ⟨hR7, hs7, hB7⟩ fun _ => ?_
  clear hK hs5 hR5 hB2 hS hR7 hG7
  refine headsT_tail (by kernel_rfl) ?_
  simp only [List.drop]
  go_wp2_with fail
  refine bodyPost_ret (v := .tuple #[.agg ((zVars).map Value.bool).toArray, .bool false]) (results_agg2 (f := Value.bool) (l := zVars) (t := 3) rfl _ (aggVarsL _ HL.out) (w.heap.size + 1) 0 rfl hs7.at) rfl ?_
  exact ⟨_, rfl, Lib.hid rfl, hB7⟩
set_option maxHeartbeats 8000000 in
theorem rSets_14 (w : World) (i : Int) (C : Array Value) (HC : Hid (C = ((stReject i).cs.map oV).toArray)) :
    Calls Tryz.prog 28 #[.agg C] w fun e w' => ∃ C', e = .returned (.tuple #[.agg C', .bool (flB (stReject i))]) ∧ Hid (C' = ((svV (stReject i)).map Value.bool).toArray) ∧ Below w.heap.size w w' := by
  go_enter Tryz.func28, Tryz.ntmps28
  go_upto_region 1 with (fail)
  obtain ⟨W, hW, hR, hZ, hB, hs⟩ : ∃ W, (w.alloc (.cells C 45)).alloc (.cells zVarsC 89) = W ∧ Row oV W w.heap.size 45 (stReject i).cs ∧ Row Value.bool W (w.heap.size + 1) 89 zVars ∧ Below w.heap.size w W ∧ w.heap.size + 2 ≤ W.heap.size := by
    refine ⟨_, rfl, Row.alloc (Row.new w _ (by rw [HC.out])) _, heap_new' _ _ _ (by simp), ((Below.refl _ _).alloc (Nat.le_refl _) _).alloc (by simp) _, by simp⟩
  rw [hW]
  clear hW
  have c0 : W.cell? ⟨w.heap.size, 0, none⟩ = some (.int .i64 14) := by rw [hR.cell?]; rfl
  have HR := Lib.hid (And.intro hR hZ)
  clear hR hZ
  go_upto_region 16 with (fail)
  have hs5 := HR.out.2
  have hR5 := HR.out.1
  have hB2 := hB
  have HL : Hid (zVars.length = 16) := Lib.hid rfl
  clear HR hB c0
  obtain ⟨W5, rfl⟩ : ∃ x, x = W := ⟨_, rfl⟩
  obtain ⟨CL, HCL⟩ : ∃ CL, Hid (CL = ((zVars).map Value.bool).toArray) := ⟨_, Lib.hid rfl⟩
  have hlt5 := hR5.lt
  refine region_headsT (S := fun X => Row oV X w.heap.size 45 (stReject i).cs ∧ Row Value.bool X (w.heap.size + 1) 89 (zVars) ∧ Below w.heap.size w X) 14 rfl (by kernel_rfl) ⟨hR5, hs5, ⟨hB2.os, hB2.tape, hB2.output, hB2.size, hB2.block⟩⟩ fun hS => ?_
  refine headsT_takeD (i := 0) (d := 32) (v := .agg CL) (by kernel_rfl) rfl rfl (by omega) (by kernel_rfl) (by kernel_rfl) (fun c a w h => h) (yieldsIf_load (f := Value.bool) (l := zVars) (aggVarsL _ HL.out) (.tmp 2) rfl (w.heap.size + 1) 0 rfl (fun W' h => h.2.1.at) HCL.out rfl) hS ?_
  simp only [List.setIfInBounds_toArray, List.set_cons_succ, List.set_cons_zero]
  refine headsT_takeD (i := 1) (d := 33) (v := .bool false) (by kernel_rfl) rfl rfl (by omega) (by kernel_rfl) (by kernel_rfl) (fun c a w h => h) (yieldsIf_op rfl (fun w => by first | rfl | kernel_rfl | (go_simp; done))) hS ?_
  simp only [List.setIfInBounds_toArray, List.set_cons_succ, List.set_cons_zero]
  refine headsT_takeD (i := 2) (d := 34) (v := .bool false) (by kernel_rfl) rfl rfl (by omega) (by kernel_rfl) (by kernel_rfl) (fun c a w h => h) (yieldsIf_op rfl (fun w => by first | rfl | kernel_rfl | (go_simp; done))) hS ?_
  simp only [List.setIfInBounds_toArray, List.set_cons_succ, List.set_cons_zero]
  refine headsT_takeD (i := 3) (d := 35) (v := .pointer (some ⟨w.heap.size, 0, none⟩)) (by kernel_rfl) rfl rfl (by omega) (by kernel_rfl) (by kernel_rfl) (fun c a w h => h) (yieldsIf_op rfl (fun w => by first | rfl | kernel_rfl | (go_simp; done))) hS ?_
  simp only [List.setIfInBounds_toArray, List.set_cons_succ, List.set_cons_zero]
  refine headsT_takeD (i := 4) (d := 36) (v := .int .i64 14) (by kernel_rfl) rfl rfl (by omega) (by kernel_rfl) (by kernel_rfl) (fun c a w h => h) (.inl ⟨by first | rfl | kernel_rfl, fun W' h => by have q0 : W'.cell? ⟨w.heap.size, 0, none⟩ = some (.int .i64 14) := (by rw [h.1.cell?]; rfl); go_simp⟩) hS ?_
  simp only [List.setIfInBounds_toArray, List.set_cons_succ, List.set_cons_zero]
  refine headsT_takeD (i := 5) (d := 37) (v := .bool false) (by kernel_rfl) rfl rfl (by omega) (by kernel_rfl) (by kernel_rfl) (fun c a w h => h) (yieldsIf_op rfl (fun w => by first | rfl | kernel_rfl | (go_simp; done))) hS ?_
  simp only [List.setIfInBounds_toArray, List.set_cons_succ, List.set_cons_zero]
  refine headsT_takeD (i := 6) (d := 38) (v := .bool false) (by kernel_rfl) rfl rfl (by omega) (by kernel_rfl) (by kernel_rfl) (fun c a w h => h) (yieldsIf_op rfl (fun w => by first | rfl | kernel_rfl | (go_simp; done))) hS ?_
  simp only [List.setIfInBounds_toArray, List.set_cons_succ, List.set_cons_zero]
  refine headsT_takeD (i := 7) (d := 39) (v := undef) (by kernel_rfl) rfl rfl (by omega) (by kernel_rfl) (by kernel_rfl) (fun c a w h => h) (yieldsIf_skip (by first | rfl | kernel_rfl)) hS ?_
  simp only [List.setIfInBounds_toArray, List.set_cons_succ, List.set_cons_zero]
  refine headsT_takeD (i := 8) (d := 40) (v := undef) (by kernel_rfl) rfl rfl (by omega) (by kernel_rfl) (by kernel_rfl) (fun c a w h => h) (yieldsIf_skip (by first | rfl | kernel_rfl)) hS ?_
  simp only [List.setIfInBounds_toArray, List.set_cons_succ, List.set_cons_zero]
  refine headsT_takeD (i := 9) (d := 41) (v := undef) (by kernel_rfl) rfl rfl (by omega) (by kernel_rfl) (by kernel_rfl) (fun c a w h => h) (yieldsIf_skip (by first | rfl | kernel_rfl)) hS ?_
  simp only [List.setIfInBounds_toArray, List.set_cons_succ, List.set_cons_zero]
  refine headsT_takeD (i := 10) (d := 42) (v := undef) (by kernel_rfl) rfl rfl (by omega) (by kernel_rfl) (by kernel_rfl) (fun c a w h => h) (yieldsIf_skip (by first | rfl | kernel_rfl)) hS ?_
  simp only [List.setIfInBounds_toArray, List.set_cons_succ, List.set_cons_zero]
  refine headsT_takeD (i := 11) (d := 43) (v := .bool false) (by kernel_rfl) rfl rfl (by omega) (by kernel_rfl) (by kernel_rfl) (fun c a w h => h) (yieldsIf_op rfl (fun w => by first | rfl | kernel_rfl | (go_simp; done))) hS ?_
  simp only [List.setIfInBounds_toArray, List.set_cons_succ, List.set_cons_zero]
  refine headsT_takeD (i := 12) (d := 44) (v := .bool false) (by kernel_rfl) rfl rfl (by omega) (by kernel_rfl) (by kernel_rfl) (fun c a w h => h) (yieldsIf_op rfl (fun w => by first | rfl | kernel_rfl | (go_simp; done))) hS ?_
  simp only [List.setIfInBounds_toArray, List.set_cons_succ, List.set_cons_zero]
  refine headsT_ready (rs := [13]) (by kernel_rfl) (by simp) (AllReadyT.cons (by omega) rfl (fun K' hK => ?_) AllReadyT.nil)
  refine storeH (f := Value.bool) (l := zVars) (l' := zVars) (t := 89) (C := CL) (aggVarsL _ HL.out) (.tmp 2) (.tmp 32) rfl rfl rfl (w.heap.size + 1) rfl HCL.out rfl hS.2.1 rfl bV_one ?_
  intro W7 hs7 hG7
  have hR7 := hS.1.grown hG7 (by intro e; injection e with e; omega)
  have hB7 := hS.2.2.grown hG7 (Nat.le_of_lt hS.1.lt) (fun k e => by cases e; omega)
  refine hK.out _ _ ⟨hR7, hs7, hB7⟩ fun _ => ?_
  clear hK hs5 hR5 hB2 hS hR7 hG7
  refine headsT_tail (by kernel_rfl) ?_
  simp only [List.drop]
  go_wp2_with fail
  refine bodyPost_ret (v := .tuple #[.agg ((zVars).map Value.bool).toArray, .bool false]) (results_agg2 (f := Value.bool) (l := zVars) (t := 3) rfl _ (aggVarsL _ HL.out) (w.heap.size + 1) 0 rfl hs7.at) rfl ?_
  exact ⟨_, rfl, Lib.hid rfl, hB7⟩
end Go.Proofs.YtllomcmhkocdfaaGreatDoor

/- What statements read. -/
namespace Go.Proofs.YtllomcmhkocdfaaGreatDoor
open Go.RowKit Mem
set_option maxRecDepth 100000

set_option maxHeartbeats 4000000 in
theorem rReads_1 (w : World) (x : Int) (y : Int) (hx : 0 ≤ x ∧ x ≤ 11) (C : Array Value) (HC : Hid (C = ((stCopy x y).cs.map oV).toArray)) :
    Calls Tryz.prog 30 #[.agg C] w fun e w' => ∃ C', e = .returned (.agg C') ∧ Hid (C' = ((rdV (stCopy x y)).map Value.bool).toArray) ∧ Below w.heap.size w w' := by
  go_enter Tryz.func30, Tryz.ntmps30
  go_upto_region 1 with (fail)
  obtain ⟨W, hW, hR, hZ, hB, hs⟩ : ∃ W, (w.alloc (.cells C 45)).alloc (.cells zVarsC 89) = W ∧ Row oV W w.heap.size 45 (stCopy x y).cs ∧ Row Value.bool W (w.heap.size + 1) 89 zVars ∧ Below w.heap.size w W ∧ w.heap.size + 2 ≤ W.heap.size := by
    refine ⟨_, rfl, Row.alloc (Row.new w _ (by rw [HC.out])) _, heap_new' _ _ _ (by simp), ((Below.refl _ _).alloc (Nat.le_refl _) _).alloc (by simp) _, by simp⟩
  rw [hW]
  clear hW
  have c0 : W.cell? ⟨w.heap.size, 0, none⟩ = some (.int .i64 1) := by rw [hR.cell?]; rfl
  have c1 : W.cell? ⟨w.heap.size, 1, none⟩ = some (.int .i64 x) := by rw [hR.cell?]; rfl
  have HZ := Lib.hid hZ
  clear hR hZ
  have Hhx := Lib.hid hx
  clear hx
  go_wp2_with fail
  have hr1 : Row iV (W.alloc (.cells #[.int .i64 x] 3)) W.heap.size 3 [x] := Row.new _ _ rfl
  have hZ2 := HZ.out.alloc (.cells #[.int .i64 x] 3)
  have hB2 := hB.alloc hB.size (.cells #[.int .i64 x] 3)
  refine (rOf _ _ _ [x] [] (.inr ⟨_, 0, 1, rfl, by simp, hr1.at, hr1.lt⟩) (.inl ⟨none, rfl, rfl⟩) (by intro v hv; rw [List.mem_singleton] at hv; subst hv; exact Hhx.out) (by simp) (by simp) (by simp)).mono ?_
  rintro e0 W3 ⟨C3, rfl, HC3, hB3⟩
  replace hZ2 := hZ2.below hB3 hZ2.lt
  replace hB2 := hB2.trans (hB3.mono hB2.size)
  have HL := Lib.hid (ofV_length [x] [])
  go_wp2_with (first
    | ((with_reducible refine store_agg (f := Value.bool) (l := zVars) (l' := ofV [x] []) (t := 89) (C := C3) (aggVarsL _ HL.out) (.tmp 2) (.tmp 49) ?_ ?_ (w.heap.size + 1) ?_ ?_ ?_ hZ2 ?_ bV_one ?_); rfl; rfl; rfl; exact HC3.out; rfl; exact HL.out; intro W5 hs5 hG5 hz5))
  refine bodyPost_ret (results_agg (f := Value.bool) (l := ofV [x] []) rfl _ (aggVarsL _ HL.out) (w.heap.size + 1) 0 rfl hs5.at) rfl ?_
  exact ⟨_, rfl, Lib.hid rfl, hB2.grown hG5 (Nat.le_of_lt (Nat.lt_of_succ_lt hZ2.lt)) (fun k e => by cases e; omega)⟩
set_option maxHeartbeats 4000000 in
theorem rReads_3 (w : World) (x : Int) (y : Int) (z : Int) (B : Sl) (la : Bool) (els : Int) (lb : List UInt8) (hx : 0 ≤ x ∧ x ≤ 11) (C : Array Value) (HC : Hid (C = ((stSplit x y z B la els lb).cs.map oV).toArray)) :
    Calls Tryz.prog 30 #[.agg C] w fun e w' => ∃ C', e = .returned (.agg C') ∧ Hid (C' = ((rdV (stSplit x y z B la els lb)).map Value.bool).toArray) ∧ Below w.heap.size w w' := by
  go_enter Tryz.func30, Tryz.ntmps30
  go_upto_region 1 with (fail)
  obtain ⟨W, hW, hR, hZ, hB, hs⟩ : ∃ W, (w.alloc (.cells C 45)).alloc (.cells zVarsC 89) = W ∧ Row oV W w.heap.size 45 (stSplit x y z B la els lb).cs ∧ Row Value.bool W (w.heap.size + 1) 89 zVars ∧ Below w.heap.size w W ∧ w.heap.size + 2 ≤ W.heap.size := by
    refine ⟨_, rfl, Row.alloc (Row.new w _ (by rw [HC.out])) _, heap_new' _ _ _ (by simp), ((Below.refl _ _).alloc (Nat.le_refl _) _).alloc (by simp) _, by simp⟩
  rw [hW]
  clear hW
  have c0 : W.cell? ⟨w.heap.size, 0, none⟩ = some (.int .i64 3) := by rw [hR.cell?]; rfl
  have c1 : W.cell? ⟨w.heap.size, 1, none⟩ = some (.int .i64 x) := by rw [hR.cell?]; rfl
  have HZ := Lib.hid hZ
  clear hR hZ
  have Hhx := Lib.hid hx
  clear hx
  go_wp2_with fail
  have hr1 : Row iV (W.alloc (.cells #[.int .i64 x] 3)) W.heap.size 3 [x] := Row.new _ _ rfl
  have hZ2 := HZ.out.alloc (.cells #[.int .i64 x] 3)
  have hB2 := hB.alloc hB.size (.cells #[.int .i64 x] 3)
  refine (rOf _ _ _ [x] [] (.inr ⟨_, 0, 1, rfl, by simp, hr1.at, hr1.lt⟩) (.inl ⟨none, rfl, rfl⟩) (by intro v hv; rw [List.mem_singleton] at hv; subst hv; exact Hhx.out) (by simp) (by simp) (by simp)).mono ?_
  rintro e0 W3 ⟨C3, rfl, HC3, hB3⟩
  replace hZ2 := hZ2.below hB3 hZ2.lt
  replace hB2 := hB2.trans (hB3.mono hB2.size)
  have HL := Lib.hid (ofV_length [x] [])
  go_wp2_with (first
    | ((with_reducible refine store_agg (f := Value.bool) (l := zVars) (l' := ofV [x] []) (t := 89) (C := C3) (aggVarsL _ HL.out) (.tmp 2) (.tmp 49) ?_ ?_ (w.heap.size + 1) ?_ ?_ ?_ hZ2 ?_ bV_one ?_); rfl; rfl; rfl; exact HC3.out; rfl; exact HL.out; intro W5 hs5 hG5 hz5))
  refine bodyPost_ret (results_agg (f := Value.bool) (l := ofV [x] []) rfl _ (aggVarsL _ HL.out) (w.heap.size + 1) 0 rfl hs5.at) rfl ?_
  exact ⟨_, rfl, Lib.hid rfl, hB2.grown hG5 (Nat.le_of_lt (Nat.lt_of_succ_lt hZ2.lt)) (fun k e => by cases e; omega)⟩
set_option maxHeartbeats 4000000 in
theorem rReads_7 (w : World) (x : Int) (y : Int) (k0 : Int) (k1 : Int) (k2 : Int) (k3 : Int) (hx : 0 ≤ x ∧ x ≤ 11) (C : Array Value) (HC : Hid (C = ((stTrim x y k0 k1 k2 k3).cs.map oV).toArray)) :
    Calls Tryz.prog 30 #[.agg C] w fun e w' => ∃ C', e = .returned (.agg C') ∧ Hid (C' = ((rdV (stTrim x y k0 k1 k2 k3)).map Value.bool).toArray) ∧ Below w.heap.size w w' := by
  go_enter Tryz.func30, Tryz.ntmps30
  go_upto_region 1 with (fail)
  obtain ⟨W, hW, hR, hZ, hB, hs⟩ : ∃ W, (w.alloc (.cells C 45)).alloc (.cells zVarsC 89) = W ∧ Row oV W w.heap.size 45 (stTrim x y k0 k1 k2 k3).cs ∧ Row Value.bool W (w.heap.size + 1) 89 zVars ∧ Below w.heap.size w W ∧ w.heap.size + 2 ≤ W.heap.size := by
    refine ⟨_, rfl, Row.alloc (Row.new w _ (by rw [HC.out])) _, heap_new' _ _ _ (by simp), ((Below.refl _ _).alloc (Nat.le_refl _) _).alloc (by simp) _, by simp⟩
  rw [hW]
  clear hW
  have c0 : W.cell? ⟨w.heap.size, 0, none⟩ = some (.int .i64 7) := by rw [hR.cell?]; rfl
  have c1 : W.cell? ⟨w.heap.size, 1, none⟩ = some (.int .i64 x) := by rw [hR.cell?]; rfl
  have HZ := Lib.hid hZ
  clear hR hZ
  have Hhx := Lib.hid hx
  clear hx
  go_wp2_with fail
  have hr1 : Row iV (W.alloc (.cells #[.int .i64 x] 3)) W.heap.size 3 [x] := Row.new _ _ rfl
  have hZ2 := HZ.out.alloc (.cells #[.int .i64 x] 3)
  have hB2 := hB.alloc hB.size (.cells #[.int .i64 x] 3)
  refine (rOf _ _ _ [x] [] (.inr ⟨_, 0, 1, rfl, by simp, hr1.at, hr1.lt⟩) (.inl ⟨none, rfl, rfl⟩) (by intro v hv; rw [List.mem_singleton] at hv; subst hv; exact Hhx.out) (by simp) (by simp) (by simp)).mono ?_
  rintro e0 W3 ⟨C3, rfl, HC3, hB3⟩
  replace hZ2 := hZ2.below hB3 hZ2.lt
  replace hB2 := hB2.trans (hB3.mono hB2.size)
  have HL := Lib.hid (ofV_length [x] [])
  go_wp2_with (first
    | ((with_reducible refine store_agg (f := Value.bool) (l := zVars) (l' := ofV [x] []) (t := 89) (C := C3) (aggVarsL _ HL.out) (.tmp 2) (.tmp 49) ?_ ?_ (w.heap.size + 1) ?_ ?_ ?_ hZ2 ?_ bV_one ?_); rfl; rfl; rfl; exact HC3.out; rfl; exact HL.out; intro W5 hs5 hG5 hz5))
  refine bodyPost_ret (results_agg (f := Value.bool) (l := ofV [x] []) rfl _ (aggVarsL _ HL.out) (w.heap.size + 1) 0 rfl hs5.at) rfl ?_
  exact ⟨_, rfl, Lib.hid rfl, hB2.grown hG5 (Nat.le_of_lt (Nat.lt_of_succ_lt hZ2.lt)) (fun k e => by cases e; omega)⟩
set_option maxHeartbeats 4000000 in
theorem rReads_11 (w : World) (i : Int) (j : Int) (thn : Int) (C : Array Value) (HC : Hid (C = ((stLoop i j thn).cs.map oV).toArray)) :
    Calls Tryz.prog 30 #[.agg C] w fun e w' => ∃ C', e = .returned (.agg C') ∧ Hid (C' = ((rdV (stLoop i j thn)).map Value.bool).toArray) ∧ Below w.heap.size w w' := by
  go_enter Tryz.func30, Tryz.ntmps30
  go_upto_region 1 with (fail)
  obtain ⟨W, hW, hR, hZ, hB, hs⟩ : ∃ W, (w.alloc (.cells C 45)).alloc (.cells zVarsC 89) = W ∧ Row oV W w.heap.size 45 (stLoop i j thn).cs ∧ Row Value.bool W (w.heap.size + 1) 89 zVars ∧ Below w.heap.size w W ∧ w.heap.size + 2 ≤ W.heap.size := by
    refine ⟨_, rfl, Row.alloc (Row.new w _ (by rw [HC.out])) _, heap_new' _ _ _ (by simp), ((Below.refl _ _).alloc (Nat.le_refl _) _).alloc (by simp) _, by simp⟩
  rw [hW]
  clear hW
  have c0 : W.cell? ⟨w.heap.size, 0, none⟩ = some (.int .i64 11) := by rw [hR.cell?]; rfl
  have HZ := Lib.hid hZ
  clear hR hZ
  have hZ := HZ.out
  obtain ⟨C3, HC3⟩ : ∃ C3, Hid (C3 = (zVars.map Value.bool).toArray) := ⟨_, Lib.hid rfl⟩
  go_wp2_with (first
    | ((with_reducible refine store_agg (f := Value.bool) (l := zVars) (l' := zVars) (t := 89) (C := zVarsC) (aggVarsL _ rfl) (.tmp 2) (.tmp 45) ?_ ?_ (w.heap.size + 1) ?_ ?_ ?_ hZ ?_ bV_one ?_); rfl; rfl; rfl; rfl; rfl; rfl; intro W5 hs5 hG5 hz5))
  refine bodyPost_ret (results_agg (f := Value.bool) (l := zVars) rfl _ (aggVarsL _ rfl) (w.heap.size + 1) 0 rfl hs5.at) rfl ?_
  exact ⟨_, rfl, Lib.hid rfl, hB.grown hG5 (by omega) (fun k e => by cases e; omega)⟩
set_option maxHeartbeats 4000000 in
theorem rReads_12 (w : World) (C : Array Value) (HC : Hid (C = (stBreak.cs.map oV).toArray)) :
    Calls Tryz.prog 30 #[.agg C] w fun e w' => ∃ C', e = .returned (.agg C') ∧ Hid (C' = ((rdV stBreak).map Value.bool).toArray) ∧ Below w.heap.size w w' := by
  go_enter Tryz.func30, Tryz.ntmps30
  go_upto_region 1 with (fail)
  obtain ⟨W, hW, hR, hZ, hB, hs⟩ : ∃ W, (w.alloc (.cells C 45)).alloc (.cells zVarsC 89) = W ∧ Row oV W w.heap.size 45 stBreak.cs ∧ Row Value.bool W (w.heap.size + 1) 89 zVars ∧ Below w.heap.size w W ∧ w.heap.size + 2 ≤ W.heap.size := by
    refine ⟨_, rfl, Row.alloc (Row.new w _ (by rw [HC.out])) _, heap_new' _ _ _ (by simp), ((Below.refl _ _).alloc (Nat.le_refl _) _).alloc (by simp) _, by simp⟩
  rw [hW]
  clear hW
  have c0 : W.cell? ⟨w.heap.size, 0, none⟩ = some (.int .i64 12) := by rw [hR.cell?]; rfl
  have HZ := Lib.hid hZ
  clear hR hZ
  have hZ := HZ.out
  obtain ⟨C3, HC3⟩ : ∃ C3, Hid (C3 = (zVars.map Value.bool).toArray) := ⟨_, Lib.hid rfl⟩
  go_wp2_with (first
    | ((with_reducible refine store_agg (f := Value.bool) (l := zVars) (l' := zVars) (t := 89) (C := zVarsC) (aggVarsL _ rfl) (.tmp 2) (.tmp 45) ?_ ?_ (w.heap.size + 1) ?_ ?_ ?_ hZ ?_ bV_one ?_); rfl; rfl; rfl; rfl; rfl; rfl; intro W5 hs5 hG5 hz5))
  refine bodyPost_ret (results_agg (f := Value.bool) (l := zVars) rfl _ (aggVarsL _ rfl) (w.heap.size + 1) 0 rfl hs5.at) rfl ?_
  exact ⟨_, rfl, Lib.hid rfl, hB.grown hG5 (by omega) (fun k e => by cases e; omega)⟩
set_option maxHeartbeats 4000000 in
theorem rReads_13 (w : World) (x : Int) (nm : ByteArray) (hx : 0 ≤ x ∧ x ≤ 11) (C : Array Value) (HC : Hid (C = ((stField x nm).cs.map oV).toArray)) :
    Calls Tryz.prog 30 #[.agg C] w fun e w' => ∃ C', e = .returned (.agg C') ∧ Hid (C' = ((rdV (stField x nm)).map Value.bool).toArray) ∧ Below w.heap.size w w' := by
  go_enter Tryz.func30, Tryz.ntmps30
  go_upto_region 1 with (fail)
  obtain ⟨W, hW, hR, hZ, hB, hs⟩ : ∃ W, (w.alloc (.cells C 45)).alloc (.cells zVarsC 89) = W ∧ Row oV W w.heap.size 45 (stField x nm).cs ∧ Row Value.bool W (w.heap.size + 1) 89 zVars ∧ Below w.heap.size w W ∧ w.heap.size + 2 ≤ W.heap.size := by
    refine ⟨_, rfl, Row.alloc (Row.new w _ (by rw [HC.out])) _, heap_new' _ _ _ (by simp), ((Below.refl _ _).alloc (Nat.le_refl _) _).alloc (by simp) _, by simp⟩
  rw [hW]
  clear hW
  have c0 : W.cell? ⟨w.heap.size, 0, none⟩ = some (.int .i64 13) := by rw [hR.cell?]; rfl
  have c1 : W.cell? ⟨w.heap.size, 1, none⟩ = some (.int .i64 x) := by rw [hR.cell?]; rfl
  have HZ := Lib.hid hZ
  clear hR hZ
  have Hhx := Lib.hid hx
  clear hx
  go_wp2_with fail
  have hr1 : Row iV (W.alloc (.cells #[.int .i64 x] 3)) W.heap.size 3 [x] := Row.new _ _ rfl
  have hZ2 := HZ.out.alloc (.cells #[.int .i64 x] 3)
  have hB2 := hB.alloc hB.size (.cells #[.int .i64 x] 3)
  refine (rOf _ _ _ [x] [] (.inr ⟨_, 0, 1, rfl, by simp, hr1.at, hr1.lt⟩) (.inl ⟨none, rfl, rfl⟩) (by intro v hv; rw [List.mem_singleton] at hv; subst hv; exact Hhx.out) (by simp) (by simp) (by simp)).mono ?_
  rintro e0 W3 ⟨C3, rfl, HC3, hB3⟩
  replace hZ2 := hZ2.below hB3 hZ2.lt
  replace hB2 := hB2.trans (hB3.mono hB2.size)
  have HL := Lib.hid (ofV_length [x] [])
  go_wp2_with (first
    | ((with_reducible refine store_agg (f := Value.bool) (l := zVars) (l' := ofV [x] []) (t := 89) (C := C3) (aggVarsL _ HL.out) (.tmp 2) (.tmp 49) ?_ ?_ (w.heap.size + 1) ?_ ?_ ?_ hZ2 ?_ bV_one ?_); rfl; rfl; rfl; exact HC3.out; rfl; exact HL.out; intro W5 hs5 hG5 hz5))
  refine bodyPost_ret (results_agg (f := Value.bool) (l := ofV [x] []) rfl _ (aggVarsL _ HL.out) (w.heap.size + 1) 0 rfl hs5.at) rfl ?_
  exact ⟨_, rfl, Lib.hid rfl, hB2.grown hG5 (Nat.le_of_lt (Nat.lt_of_succ_lt hZ2.lt)) (fun k e => by cases e; omega)⟩
set_option maxHeartbeats 4000000 in
theorem rReads_14 (w : World) (i : Int) (C : Array Value) (HC : Hid (C = ((stReject i).cs.map oV).toArray)) :
    Calls Tryz.prog 30 #[.agg C] w fun e w' => ∃ C', e = .returned (.agg C') ∧ Hid (C' = ((rdV (stReject i)).map Value.bool).toArray) ∧ Below w.heap.size w w' := by
  go_enter Tryz.func30, Tryz.ntmps30
  go_upto_region 1 with (fail)
  obtain ⟨W, hW, hR, hZ, hB, hs⟩ : ∃ W, (w.alloc (.cells C 45)).alloc (.cells zVarsC 89) = W ∧ Row oV W w.heap.size 45 (stReject i).cs ∧ Row Value.bool W (w.heap.size + 1) 89 zVars ∧ Below w.heap.size w W ∧ w.heap.size + 2 ≤ W.heap.size := by
    refine ⟨_, rfl, Row.alloc (Row.new w _ (by rw [HC.out])) _, heap_new' _ _ _ (by simp), ((Below.refl _ _).alloc (Nat.le_refl _) _).alloc (by simp) _, by simp⟩
  rw [hW]
  clear hW
  have c0 : W.cell? ⟨w.heap.size, 0, none⟩ = some (.int .i64 14) := by rw [hR.cell?]; rfl
  have HZ := Lib.hid hZ
  clear hR hZ
  have hZ := HZ.out
  obtain ⟨C3, HC3⟩ : ∃ C3, Hid (C3 = (zVars.map Value.bool).toArray) := ⟨_, Lib.hid rfl⟩
  go_wp2_with (first
    | ((with_reducible refine store_agg (f := Value.bool) (l := zVars) (l' := zVars) (t := 89) (C := zVarsC) (aggVarsL _ rfl) (.tmp 2) (.tmp 45) ?_ ?_ (w.heap.size + 1) ?_ ?_ ?_ hZ ?_ bV_one ?_); rfl; rfl; rfl; rfl; rfl; rfl; intro W5 hs5 hG5 hz5))
  refine bodyPost_ret (results_agg (f := Value.bool) (l := zVars) rfl _ (aggVarsL _ rfl) (w.heap.size + 1) 0 rfl hs5.at) rfl ?_
  exact ⟨_, rfl, Lib.hid rfl, hB.grown hG5 (by omega) (fun k e => by cases e; omega)⟩
end Go.Proofs.YtllomcmhkocdfaaGreatDoor
