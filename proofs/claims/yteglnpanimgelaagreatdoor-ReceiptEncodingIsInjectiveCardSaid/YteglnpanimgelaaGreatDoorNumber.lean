/- receipt's buffer: number and bytes. -/
import Derived.WalkKit
import Derived.Outline
import Derived.Lib.Hide
import Derived.OwnWalk
import Derived.LoopTactic
import Derived.WalkSmall
import Derived.Deep.LoopGhost
import Derived.Deep.DeepMust
import Derived.BigRegion
import Derived.Test.YteglnpanimgelaaGreatDoorBuf
import Derived.Test.YteglnpanimgelaaGreatDoorAgg
import Derived.Test.YteglnpanimgelaaGreatDoorProg
namespace Go.Proofs.YteglnpanimgelaaGreatDoor
open Go.RowKit Mem
set_option maxRecDepth 100000

theorem eltBuf : Elt Tryz.prog 67 5 1 := Elt.mk' (z := .int .u8 0) Tryz.underlying67 (by kernel_rfl) rfl

set_option maxHeartbeats 1000000 in
theorem bufNumber (w : World) (pb B : Nat) (v : Value) (l : List UInt8) (h : Buf u8V w pb 67 B 5 v l) (hBw : B ≤ w.heap.size) (hl : l.length ≤ 100000000000) (x : Int) (n : Nat) (hn : n ≤ 8) :
    Calls Tryz.prog 27 #[.pointer (some ⟨pb, 0, none⟩), .int .i64 x, .int .i64 n] w fun e w' => e = .returned (.tuple #[]) ∧ ∃ v', Buf u8V w' pb 67 B 5 v' (l ++ Sha.le (Sha.u64 x) n) ∧ BufStep w w' pb v v' := by
  go_enter Tryz.func27, Tryz.ntmps27
  go_wp2_with fail
  go_loopw [8] (fun i wr => ∃ (k : Nat) (o2 : List UInt8) (v2 : Value), k ≤ n ∧ i = .int .i64 k ∧ o2 = l ++ Sha.le (Sha.u64 x) k ∧ o2.length = l.length + k ∧ Buf u8V wr pb 67 B 5 v2 o2 ∧ BufStep w wr pb v v2) (fun i _ => n - (intOf i).toNat)
  case atStart => exact ⟨0, l, v, by omega, rfl, by simp [Sha.le], by simp, h, BufStep.refl _ _ _⟩
  case round =>
    obtain ⟨k, o2, v2, hk, rfl, ho2, hol, hbuf, hst⟩ := hrel
    by_cases hlt : k < n
    · have HO := Lib.hid ho2
      have HL := Lib.hid hol
      have hmax : o2.length ≤ 100000000010 := by omega
      clear ho2 hol
      have hc := cell_var hbuf.cell
      have hq : (k : Int) < (n : Int) := by omega
      obtain ⟨p2, c2, rfl⟩ := hbuf.own.slice
      have hwx : IntKind.u64.wrap x = ((Sha.u64 x : Nat) : Int) := by
        rw [IntKind.wrap_u64]; unfold Sha.u64; omega
      have HR := Lib.hid (Words.u8_of_shift (Sha.u64 x) (8 * k))
      have HLS := Lib.hid (Sha.le_succ (Sha.u64 x) k)
      generalize hX : Sha.u64 x = X at hwx HR HLS
      have HX := Lib.hid hX
      clear hX
      have w1 : IntKind.i64.wrap (8 * (k : Int)) = 8 * (k : Int) := wI _ (by omega) (by omega)
      have n1 : (8 * (k : Int)).toNat = 8 * k := by omega
      have p1 : 0 ≤ 8 * (k : Int) := by omega
      have hm : min (8 * k) 64 = 8 * k := by omega
      have hown := hbuf.own
      have hpl : pb < wr.heap.size := (Array.getElem?_eq_some_iff.1 hbuf.cell).1
      have hBr : B ≤ wr.heap.size := Nat.le_trans hBw hst.size
      go_wp2_with fail
      go_region_law ((go_loud (refine step_append_drew (w := wr) (f := u8V) (base := B) (l := o2) (v := .slice p2 o2.length c2) eltBuf (.tmp 14) (.tmp 21) 67 ?_ ?_ rfl u8V_one ?_ hown (UInt8.ofNat (X >>> (8 * k))) (.int .u8 (IntKind.u8.wrap ((X : Int) / 2 ^ (8 * k)))) ?_ 5 ?_ ?_ ?_ hBr (o2 ++ [UInt8.ofNat (X >>> (8 * k))]) rfl ?_)); rfl; rfl; rfl; (unfold u8V; rw [← HR.out]); rfl; omega; omega; intro p3 c3 w3 hO3 hG3 hW3; have hcell3 := (hG3.block pb (by simp; omega) (fun e => by have := hown.lt pb e.symm; have := hbuf.lt; omega)).trans ((Below.heap_alloc _ _ _ hpl).trans hbuf.cell); have hcv := cell_var hcell3; have hfv := frozen_var hcell3)
      all_goals
        rw [List.length_append, List.length_singleton] at hO3 hW3
        go_wp2
        go_roundw
        case rel => exact ⟨k + 1, o2 ++ [UInt8.ofNat (X >>> (8 * k))], .slice p3 (o2.length + 1) c3, by omega, by go_num, by rw [HLS.out, HO.out, HX.out, List.append_assoc], by simp [HL.out]; omega, ⟨set_var hcell3 _, own_set_var hO3 hbuf.lt _, hbuf.lt⟩, hst.trans (BufStep.app hG3 hW3)⟩
        case measure => simp [intOf]; omega
    · obtain rfl : k = n := by omega
      go_wp2
      go_end0
      exact ⟨rfl, v2, by rw [← ho2]; exact hbuf, hst⟩
end Go.Proofs.YteglnpanimgelaaGreatDoor
