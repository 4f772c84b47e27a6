/- The reference's pad, Bytes and Masked. -/
import Derived.WalkKit
import Derived.Outline
import Derived.Lib.Hide
import Derived.OwnWalk
import Derived.LoopTactic
import Derived.WalkSmall
import Derived.Deep.LoopGhost
import Derived.Deep.DeepMust
import Derived.Deep.QuietTactic
import Derived.BigQuiet
import Derived.Test.YteglnpanimgelaaGreatDoorAgg
import Derived.Test.YteglnpanimgelaaGreatDoorProg
namespace Go.Proofs.YteglnpanimgelaaGreatDoor
open Go.RowKit Mem

/-- the length of a slice value -/
def lenOf : Value → Nat
  | .slice _ n _ => n
  | _ => 0

theorem eltB : Elt Tryz.prog 36 5 1 := Elt.mk' (z := .int .u8 0) Tryz.underlying36 (by kernel_rfl) rfl

set_option maxHeartbeats 1000000 in
theorem refPad (w : World) (v : Value) (b : List UInt8) (hb : Rd u8V w v b) (hlen : b.length ≤ 1000000000) :
    Calls Tryz.prog 47 #[v] w fun e w' => ∃ v', e = .returned v' ∧ Own u8V w' w.heap.size 5 v' (Sha.pad b) ∧ Below w.heap.size w w' := by
  obtain ⟨pv, cv, hv⟩ := hb.slice
  subst hv
  go_enter Tryz.func47, Tryz.ntmps47
  have hO0 : Own u8V (w.alloc (.cells #[] 5)) w.heap.size 5 (.slice (some ⟨w.heap.size, 0, none⟩) 0 0) [] := Own.new w _ w.heap.size (Nat.le_refl _) rfl (by simp)
  have hB0 : Below w.heap.size w (w.alloc (.cells #[] 5)) := (Below.refl _ _).alloc (Nat.le_refl _) _
  have HL := Lib.hid (show b.length = b.length from rfl)
  go_wp2_with (first
    | (at_builtin; (with_reducible refine append_rd eltB (.tmp 6) (.tmp 7) ?_ ?_ u8V_one ?_ hO0 b _ ?_ (hb.alloc _) ?_ ?_ ?_ b ?_ ?_); rfl; rfl; rfl; rfl; (simp; omega); (simp; omega); (simp); rfl; intro p1 c1 w1 hO1 hB1 hG1)
    | (at_builtin; (with_reducible refine append_one eltB (.tmp 9) (.tmp 10) ?_ ?_ u8V_one ?_ hO1 128 _ ?_ _ ?_ ?_ ?_ ?_ (b ++ [128]) ?_ ?_); rfl; rfl; rfl; rfl; rfl; omega; omega; (have := hB1.size; simp at this; omega); rfl; intro p2 c2 w2 hO2 hB2 hG2))
  have hB3 : Below w.heap.size w w2 := (hB0.trans hB1).trans hB2
  clear hO0 hB0 hO1 hB1 hG1 hB2 hG2
  go_loopw [3] (fun v wr => ∃ (j : Nat) (out : List UInt8) (p : Option Addr) (cap : Nat), j ≤ Sha.zeros b.length ∧ out = b ++ [128] ++ List.replicate j 0 ∧ out.length = b.length + 1 + j ∧ v = .slice p out.length cap ∧ Own u8V wr w.heap.size 5 v out ∧ Below w.heap.size w wr) (fun v _ => Sha.zeros b.length + b.length + 1 - lenOf v)
  case atStart => exact ⟨0, b ++ [128], p2, c2, by omega, by simp, by simp, by simp, by simpa using hO2, hB3⟩
  case round =>
    clear hO2 hB3
    obtain ⟨j, out, p, cap, hj, hout, hol, rfl, hO, hB⟩ := hrel
    have hz64 : Sha.zeros b.length < 64 := by unfold Sha.zeros; omega
    by_cases hlt : j < Sha.zeros b.length
    · have ht : ((out.length : Int) % 64 != 56) = true := by
        have := Sha.zeros_lt _ _ hlt
        rw [bne_iff_ne]; omega
      have hmax : out.length ≤ 2000000000 := by omega
      have HO := Lib.hid hout
      have HL2 := Lib.hid hol
      clear hout hol
      go_wp2_with (at_builtin; (with_reducible refine append_one eltB (.tmp 16) (.tmp 17) ?_ ?_ u8V_one ?_ hO 0 _ ?_ _ ?_ ?_ ?_ ?_ (out ++ [0]) ?_ ?_); rfl; rfl; rfl; rfl; rfl; omega; omega; exact hB.size; rfl; intro p2 c2 w3 hO2 hB2 hG2)
      go_roundw
      case rel => exact ⟨j + 1, out ++ [0], p2, c2, by omega, by rw [HO.out, List.replicate_succ']; simp, by simp [HL2.out]; omega, by simp, by simpa using hO2, hB.trans hB2⟩
      case measure => have := HL2.out; simp [lenOf]; omega
    · have hje : j = Sha.zeros b.length := by omega
      have ht : ((out.length : Int) % 64 != 56) = false := by
        have := Sha.zeros_eq b.length
        rw [bne_eq_false_iff_eq]; omega
      have hmax : out.length ≤ 2000000000 := by omega
      have HO := Lib.hid (show out = b ++ [128] ++ List.replicate (Sha.zeros b.length) 0 by rw [hout, hje])
      have HL2 := Lib.hid hol
      clear hout hol hje hlt hj
      go_wp2_with fail
      have hn8 : ((b.length : Int) * 8) = ((8 * b.length : Nat) : Int) := by omega
      rw [hn8]
      clear hn8
      go_loopw [3, 5] (fun v i wr => ∃ (k : Nat) (o2 : List UInt8) (p : Option Addr) (cap : Nat), k ≤ 8 ∧ i = .int .i64 k ∧ o2 = out ++ Sha.be (8 * b.length) k ∧ o2.length = out.length + k ∧ v = .slice p o2.length cap ∧ Own u8V wr w.heap.size 5 v o2 ∧ Below w.heap.size w wr) (fun _ i _ => 8 - (intOf i).toNat)
      case atStart => exact ⟨0, out, p, cap, by omega, rfl, by simp [Sha.be], by simp, rfl, hO, hB⟩
      case round =>
        clear hO hB
        obtain ⟨k, o2, p, cap, hk, rfl, ho2, ho2l, rfl, hO, hB⟩ := hrel
        have HO2 := Lib.hid ho2
        have HL3 := Lib.hid ho2l
        have hmax2 : o2.length ≤ 2000000100 := by omega
        clear ho2 ho2l
        by_cases hlt : k < 8
        · have w1 : IntKind.i64.wrap (56 - 8 * (k : Int)) = 56 - 8 * (k : Int) := wI _ (by omega) (by omega)
          have n1 : (56 - 8 * (k : Int)).toNat = 56 - 8 * k := by omega
          have p1 : 0 ≤ 56 - 8 * (k : Int) := by omega
          have r1 := Words.u8_of_shift (8 * b.length) (56 - 8 * k)
          generalize 8 * b.length = nb at *
          go_wp2_with (at_builtin; (with_reducible refine append_one eltB (.tmp 27) (.tmp 34) ?_ ?_ u8V_one ?_ hO (UInt8.ofNat (nb >>> (56 - 8 * k))) _ ?_ _ ?_ ?_ ?_ ?_ (o2 ++ [UInt8.ofNat (nb >>> (56 - 8 * k))]) ?_ ?_); rfl; rfl; rfl; (simp [u8V]); rfl; omega; omega; exact hB.size; rfl; intro p2 c2 w3 hO2 hB2 hG2)
          go_roundw
          case rel => exact ⟨k + 1, o2 ++ [UInt8.ofNat (nb >>> (56 - 8 * k))], p2, c2, by omega, by go_num, by rw [HO2.out, Sha.be_succ]; simp, by simp [HL3.out]; omega, by simp, by simpa using hO2, hB.trans hB2⟩
          case measure => simp [intOf]; omega
        · obtain rfl : k = 8 := by omega
          go_wp2
          go_ret
          refine ⟨_, rfl, ?_, hB⟩
          have : Sha.pad b = o2 := by rw [HO2.out, HO.out]; rfl
          rw [this]; exact hO

set_option maxHeartbeats 1000000 in
theorem refBytes (w : World) (d : List UInt8) (hd : d.length = 32) (C : Array Value) (hC : Hid (C = (d.map u8V).toArray)) :
    Calls Tryz.prog 39 #[.agg C] w fun e w' => ∃ v', e = .returned v' ∧ Own u8V w' w.heap.size 5 v' d ∧ Below w.heap.size w w' := by
  have HD := Lib.hid hd
  clear hd
  go_enter Tryz.func39, Tryz.ntmps39
  go_wp2_with fail
  have hR0 : Row u8V ((w.alloc (.cells C 23)).alloc (.cells #[] 5)) w.heap.size 23 d := by
    refine Row.alloc (Row.new w _ ?_) _
    rw [hC.out]
  have hO0 : Own u8V ((w.alloc (.cells C 23)).alloc (.cells #[] 5)) w.heap.size 5 (.slice (some ⟨w.heap.size + 1, 0, none⟩) 0 0) [] := by
    have := Own.new (f := u8V) (e := 5) (l := []) (w.alloc (.cells C 23)) (.cells #[] 5) w.heap.size (by simp) rfl (by simp)
    rwa [World.size_alloc] at this
  have hB0 : Below w.heap.size w ((w.alloc (.cells C 23)).alloc (.cells #[] 5)) := ((Below.refl _ _).alloc (Nat.le_refl _) _).alloc (by simp) _
  have hz0 : w.heap.size < ((w.alloc (.cells C 23)).alloc (.cells #[] 5)).heap.size := by simp; omega
  have hO1 : Own u8V ((w.alloc (.cells C 23)).alloc (.cells #[] 5)) (w.heap.size + 1) 5 (.slice (some ⟨w.heap.size + 1, 0, none⟩) 0 0) [] := by
    have := Own.new (f := u8V) (e := 5) (l := []) (w.alloc (.cells C 23)) (.cells #[] 5) (w.heap.size + 1) (by simp) rfl (by simp)
    rwa [World.size_alloc] at this
  clear hO0
  go_loopw [3, 4] (fun v i wr => ∃ (k : Nat) (p : Option Addr) (cap : Nat), k ≤ 32 ∧ i = .int .i64 k ∧ v = .slice p k cap ∧ Own u8V wr (w.heap.size + 1) 5 (.slice p k cap) (d.take k) ∧ Row u8V wr w.heap.size 23 d ∧ Below w.heap.size w wr) (fun _ i _ => 32 - (intOf i).toNat)
  case atStart => exact ⟨0, _, 0, by omega, rfl, rfl, hO1, hR0, hB0⟩
  case round =>
    clear hO1 hR0 hB0 hz0
    obtain ⟨k, p, cap, hk, rfl, rfl, hO, hR, hB⟩ := hrel
    by_cases hlt : k < 32
    · have c0 : wr.cell? ⟨w.heap.size, k, none⟩ = some (.int .u8 (d[k]?.getD 0).toNat) := hR.cell 0 k (by rw [HD.out]; exact hlt)
      have hl : (d.take k).length = k := by rw [List.length_take, HD.out]; omega
      have hsn : d.take k ++ [d[k]?.getD 0] = d.take (k + 1) := by
        rw [List.take_add_one, List.getElem?_eq_getElem (by rw [HD.out]; exact hlt)]; simp
      have hl2 : (d.take (k + 1)).length = k + 1 := by rw [List.length_take, HD.out]; omega
      have HS := Lib.hid hsn
      have HL := Lib.hid hl
      have HL2 := Lib.hid hl2
      have hzb : w.heap.size + 1 ≤ wr.heap.size := hR.lt
      clear hsn hl hl2
      generalize d[k]?.getD 0 = x at c0 HS
      have hq : (k : Int) < 32 := by omega
      go_wp2_with (at_builtin; (with_reducible refine append_one eltB (.tmp 10) (.tmp 14) ?_ ?_ u8V_one ?_ hO x _ ?_ _ ?_ ?_ ?_ ?_ (d.take (k + 1)) ?_ ?_); rfl; rfl; rfl; rfl; rfl; (rw [HL.out]; omega); (rw [HL.out]; omega); exact hzb; exact HS.out; intro p2 c2 w3 hO2 hB2 hG2; rw [HL2.out] at hO2 ⊢)
      go_roundw
      case rel => exact ⟨k + 1, p2, c2, by omega, by go_num, rfl, hO2, hR.below hB2 (Nat.lt_succ_self _), hB.trans (hB2.mono (Nat.le_succ _))⟩
      case measure => simp [intOf]; omega
    · obtain rfl : k = 32 := by omega
      go_wp2
      go_ret
      refine ⟨_, rfl, ?_, hB⟩
      rw [List.take_of_length_le (by rw [HD.out]; exact Nat.le_refl _)] at hO
      exact hO.mono (Nat.le_succ _)

set_option maxHeartbeats 1000000 in
theorem refMasked (w : World) (key : List UInt8) (hd : key.length = 32) (m : UInt8) (C : Array Value) (hC : Hid (C = (key.map u8V).toArray)) :
    Calls Tryz.prog 37 #[.agg C, .int .u8 m.toNat] w fun e w' => ∃ v', e = .returned v' ∧ Own u8V w' w.heap.size 5 v' (Sha.masked key m) ∧ Below w.heap.size w w' := by
  have HD := Lib.hid hd
  clear hd
  go_enter Tryz.func37, Tryz.ntmps37
  go_wp2_with fail
  have hR0 : Row u8V ((w.alloc (.cells C 23)).alloc (.cells #[] 5)) w.heap.size 23 key := by
    refine Row.alloc (Row.new w _ ?_) _
    rw [hC.out]
  have hB0 : Below w.heap.size w ((w.alloc (.cells C 23)).alloc (.cells #[] 5)) := ((Below.refl _ _).alloc (Nat.le_refl _) _).alloc (by simp) _
  have hO1 : Own u8V ((w.alloc (.cells C 23)).alloc (.cells #[] 5)) (w.heap.size + 1) 5 (.slice (some ⟨w.heap.size + 1, 0, none⟩) 0 0) [] := by
    have := Own.new (f := u8V) (e := 5) (l := []) (w.alloc (.cells C 23)) (.cells #[] 5) (w.heap.size + 1) (by simp) rfl (by simp)
    rwa [World.size_alloc] at this
  go_loopw [5, 6] (fun v i wr => ∃ (k : Nat) (p : Option Addr) (cap : Nat), k ≤ 64 ∧ i = .int .i64 k ∧ v = .slice p k cap ∧ Own u8V wr (w.heap.size + 1) 5 (.slice p k cap) (Sha.maskN key m k) ∧ Row u8V wr w.heap.size 23 key ∧ Below w.heap.size w wr) (fun _ i _ => 64 - (intOf i).toNat)
  case atStart => exact ⟨0, _, 0, by omega, rfl, rfl, hO1, hR0, hB0⟩
  case round =>
    clear hO1 hR0 hB0
    obtain ⟨k, p, cap, hk, rfl, rfl, hO, hR, hB⟩ := hrel
    have hk3 : k < 32 ∨ (¬ k < 32 ∧ k < 64) ∨ k = 64 := by omega
    rcases hk3 with hlt | ⟨hge, hlt⟩ | rfl
    · have hk64 : k < 64 := by omega
      have c0 : wr.cell? ⟨w.heap.size, k, none⟩ = some (.int .u8 (key[k]?.getD 0).toNat) := hR.cell 0 k (by rw [HD.out]; exact hlt)
      have HS := Lib.hid (Sha.maskN_lo key m k hlt)
      have hx := Words.u8_xor (key[k]?.getD 0) m
      generalize key[k]?.getD 0 = x at c0 HS hx
      have hxm : Hid (((x ^^^ m).toNat : Int) = bits .xor .u8 x.toNat m.toNat) := hx.symm
      clear hx
      have HL := Lib.hid (Sha.maskN_length key m k)
      have HL2 := Lib.hid (Sha.maskN_length key m (k + 1))
      have hzb : w.heap.size + 1 ≤ wr.heap.size := hR.lt
      have hq : (k : Int) < 64 := by omega
      have hq3 : (k : Int) < 32 := by omega
      go_wp2_with (at_builtin; (with_reducible refine append_one eltB (.tmp 21) (.tmp 23) ?_ ?_ u8V_one ?_ hO (x ^^^ m) _ ?_ _ ?_ ?_ ?_ ?_ (Sha.maskN key m (k + 1)) ?_ ?_); rfl; rfl; rfl; (unfold u8V; rw [hxm.out]); rfl; (rw [HL.out]; omega); (rw [HL.out]; omega); exact hzb; exact HS.out; intro p2 c2 w3 hO2 hB2 hG2; rw [HL2.out] at hO2 ⊢)
      go_roundw
      case rel => exact ⟨k + 1, p2, c2, by omega, by go_num, rfl, hO2, hR.below hB2 (Nat.lt_succ_self _), hB.trans (hB2.mono (Nat.le_succ _))⟩
      case measure => simp [intOf]; omega
    · have HS := Lib.hid (Sha.maskN_hi key m k hge)
      have HL := Lib.hid (Sha.maskN_length key m k)
      have HL2 := Lib.hid (Sha.maskN_length key m (k + 1))
      have hzb : w.heap.size + 1 ≤ wr.heap.size := hR.lt
      have hq : (k : Int) < 64 := by omega
      have hq3 : ¬ (k : Int) < 32 := by omega
      go_wp2_with (at_builtin; (with_reducible refine append_one eltB (.tmp 21) (.tmp 23) ?_ ?_ u8V_one ?_ hO m _ ?_ _ ?_ ?_ ?_ ?_ (Sha.maskN key m (k + 1)) ?_ ?_); rfl; rfl; rfl; rfl; rfl; (rw [HL.out]; omega); (rw [HL.out]; omega); exact hzb; exact HS.out; intro p2 c2 w3 hO2 hB2 hG2; rw [HL2.out] at hO2 ⊢)
      go_roundw
      case rel => exact ⟨k + 1, p2, c2, by omega, by go_num, rfl, hO2, hR.below hB2 (Nat.lt_succ_self _), hB.trans (hB2.mono (Nat.le_succ _))⟩
      case measure => simp [intOf]; omega
    · go_wp2
      go_ret
      exact ⟨_, rfl, hO.mono (Nat.le_succ _), hB⟩
end Go.Proofs.YteglnpanimgelaaGreatDoor
