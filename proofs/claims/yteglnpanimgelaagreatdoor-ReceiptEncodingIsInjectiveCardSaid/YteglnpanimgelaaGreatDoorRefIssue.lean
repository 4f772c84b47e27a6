/- The reference's Issue and Signed. -/
import Derived.WalkKit
import Derived.Outline
import Derived.Lib.Hide
import Derived.OwnWalk
import Derived.WalkSmall
import Derived.Test.YteglnpanimgelaaGreatDoorRefBody
import Derived.Test.YteglnpanimgelaaGreatDoorRefKeyed
import Derived.Test.YteglnpanimgelaaGreatDoorHeldTail
namespace Go.Proofs.YteglnpanimgelaaGreatDoor
open Go.RowKit Mem
set_option maxRecDepth 100000

set_option maxHeartbeats 4000000 in
theorem refIssue (w : World) (key : List UInt8) (hk : key.length = 32) (n v s : Int) (m r c : List UInt8) (hm : m.length = 32) (hr : r.length = 32) (hc : c.length = 32)
    (K0 C0 : Array Value) (HK : Hid (K0 = (key.map u8V).toArray)) (HC : Hid (C0 = ((recL n v s m r c).map cV).toArray)) :
    Calls Tryz.prog 29 #[.agg K0, .agg C0] w fun e w' => ∃ C, e = .returned (.agg C) ∧ Hid (C = ((recL n v s m r (Sha.keyed key (Sha.msg n v s m r))).map cV).toArray) ∧ Below w.heap.size w w' := by
  have harrk : AggT Tryz.prog 23 key.length := by rw [hk]; exact arr23
  have harrR : AggT Tryz.prog 40 (recL n v s m r c).length := by rw [recL_length, hm, hr, hc]; exact aggReceipt
  go_enter Tryz.func29, Tryz.ntmps29
  go_wp2_with fail
  generalize hw0 : World.alloc (World.alloc (World.alloc w _) _) _ = w0
  have hs0 : w0.heap.size = w.heap.size + 3 := by subst hw0; simp; try omega
  have hb0 : Below w.heap.size w w0 := by
    subst hw0; exact (((Below.refl _ _).alloc (Nat.le_refl _) _).alloc (by simp) _).alloc (by simp; omega) _
  have hK0 : Row u8V w0 w.heap.size 23 key := by
    subst hw0; unfold Row; rw [← HK.out]; repeat (first | exact heap_new' _ _ _ (by (try simp) <;> omega) | refine (Below.heap_alloc _ _ _ (by (try simp) <;> omega)).trans ?_)
  have hR0 : Row cV w0 (w.heap.size + 1) 40 (recL n v s m r c) := by
    subst hw0; unfold Row; rw [← HC.out]; repeat (first | exact heap_new' _ _ _ (by (try simp) <;> omega) | refine (Below.heap_alloc _ _ _ (by (try simp) <;> omega)).trans ?_)
  have hZ0 : Row cV w0 (w.heap.size + 1 + 1) 40 (recL 0 0 0 (List.replicate 32 0) (List.replicate 32 0) (List.replicate 32 0)) := by
    subst hw0; unfold Row; rw [← zeroReceipt]; repeat (first | exact heap_new' _ _ _ (by (try simp) <;> omega) | refine (Below.heap_alloc _ _ _ (by (try simp) <;> omega)).trans ?_)
  clear hw0
  refine region_headsT (S := fun w' => Row u8V w' w.heap.size 23 key ∧ Row cV w' (w.heap.size + 1) 40 (recL n v s m r c) ∧ Row cV w' (w.heap.size + 1 + 1) 40 (recL 0 0 0 (List.replicate 32 0) (List.replicate 32 0) (List.replicate 32 0)) ∧ Below w.heap.size w w' ∧ w.heap.size + 3 ≤ w'.heap.size) 5 rfl (by kernel_rfl) ⟨hK0, hR0, hZ0, hb0.drew, by simp; omega⟩ fun hS => ?_
  refine headsT_take (i := 0) (v := .agg K0) (by kernel_rfl) rfl (by omega) (by kernel_rfl) (by kernel_rfl) (fun c a w h => h) (yieldsIf_load (f := u8V) (l := key) harrk (.tmp 2) rfl w.heap.size 0 rfl (fun w h => h.1.at) HK.out rfl) hS ?_
  refine headsT_take (i := 1) (v := .agg C0) (by kernel_rfl) rfl (by omega) (by kernel_rfl) (by kernel_rfl) (fun c a w h => h) (yieldsIf_load (f := cV) (l := recL n v s m r c) harrR (.tmp 3) rfl (w.heap.size + 1) 0 rfl (fun w h => h.2.1.at) HC.out rfl) hS ?_
  refine headsT_ready (rs := [2]) (by kernel_rfl) (by simp) (AllReadyT.cons (by omega) rfl (fun K' hK => ?_) AllReadyT.nil)
  refine held_call (g := 41) (args := #[.agg C0]) rfl (by first | kernel_rfl | (simp [execOp, resolve, invoke, Act.put, Act.eval]) | go_simp) ?_
  refine (refBody w0.drew n v s m r c hm hr C0 HC).mono ?_
  rintro e w1 ⟨v1, rfl, hO1, hB1⟩
  have hS1 : Row u8V w1 w.heap.size 23 key ∧ Row cV w1 (w.heap.size + 1) 40 (recL n v s m r c) ∧ Row cV w1 (w.heap.size + 1 + 1) 40 (recL 0 0 0 (List.replicate 32 0) (List.replicate 32 0) (List.replicate 32 0)) ∧ Below w.heap.size w w1 ∧ w.heap.size + 3 ≤ w1.heap.size :=
    ⟨hS.1.below hB1 hS.1.lt, hS.2.1.below hB1 hS.2.1.lt, hS.2.2.1.below hB1 hS.2.2.1.lt, hS.2.2.2.1.trans (hB1.mono hS.2.2.2.1.size), Nat.le_trans hS.2.2.2.2 hB1.size⟩
  refine ⟨_, rfl, hK.out _ _ hS1 fun _ => ?_⟩
  clear hK
  refine headsT_ready (rs := [3]) (by kernel_rfl) (by simp) (AllReadyT.cons (by omega) rfl (fun K' hK => ?_) AllReadyT.nil)
  refine held_call (g := 24) (args := #[.agg K0, v1]) rfl (by first | kernel_rfl | (simp [execOp, resolve, invoke, Act.put, Act.eval]) | go_simp) ?_
  refine (refKeyed w1 key hk K0 HK v1 (Sha.msg n v s m r) hO1.rd (by simp [Sha.msg, Sha.le_length, hm, hr])).mono ?_
  rintro e w2 ⟨C2, rfl, HC2, hB2⟩
  have hS2 : Row u8V w2 w.heap.size 23 key ∧ Row cV w2 (w.heap.size + 1) 40 (recL n v s m r c) ∧ Row cV w2 (w.heap.size + 1 + 1) 40 (recL 0 0 0 (List.replicate 32 0) (List.replicate 32 0) (List.replicate 32 0)) ∧ Below w.heap.size w w2 ∧ w.heap.size + 3 ≤ w2.heap.size :=
    ⟨hS1.1.below hB2 hS1.1.lt, hS1.2.1.below hB2 hS1.2.1.lt, hS1.2.2.1.below hB2 hS1.2.2.1.lt, hS1.2.2.2.1.trans (hB2.mono hS1.2.2.2.1.size), Nat.le_trans hS1.2.2.2.2 hB2.size⟩
  refine ⟨_, rfl, hK.out _ _ hS2 fun _ => ?_⟩
  refine headsT_take (i := 4) (v := .pointer (some ⟨w.heap.size + 1, 67, none⟩)) (by kernel_rfl) rfl (by omega) (by kernel_rfl) (by kernel_rfl) (fun c a w h => h) (yieldsIf_op rfl (fun w => rfl)) hS2 ?_
  refine headsT_tail (by kernel_rfl) ?_
  clear hK
  obtain ⟨hK7, hR7, hZ7, hbl7, hz7⟩ := hS2
  have HM := Lib.hid (keyed_length key (Sha.msg n v s m r))
  generalize hmac : Sha.keyed key (Sha.msg n v s m r) = mac at HC2 HM
  have HMAC := Lib.hid hmac
  clear hmac hS hS1 hO1 hB1 hB2 hK0 hR0 hZ0 hb0 hK7
  have harrm : AggT Tryz.prog 23 mac.length := by rw [HM.out]; exact arr23
  have harrR2 : AggT Tryz.prog 40 (recL n v s m r mac).length := by rw [recL_length, HM.out, hm, hr]; exact aggReceipt
  have hR7' : Row cV w2 (w.heap.size + 1) 40 (([.inl n, .inl v, .inl s] ++ m.map Sum.inr ++ r.map Sum.inr) ++ c.map Sum.inr ++ []) := by simpa [recL] using hR7
  have HLR := Lib.hid (show (recL n v s m r mac).length = (recL 0 0 0 (List.replicate 32 0) (List.replicate 32 0) (List.replicate 32 0)).length by rw [recL_length, recL_length, HM.out, hm, hr]; simp)
  have HL1 := Lib.hid (show (([.inl n, .inl v, .inl s] : List (Int ⊕ UInt8)) ++ m.map Sum.inr ++ r.map Sum.inr).length = 67 by simp [hm, hr])
  have HL2 := Lib.hid (show mac.length = c.length by rw [HM.out, hc])
  obtain ⟨C9, HC9⟩ : ∃ C9, Hid (C9 = ((recL n v s m r mac).map cV).toArray) := ⟨_, Lib.hid rfl⟩
  clear hR7 hs0 harrR harrk
  simp only [List.drop]
  go_wp2_with (first
    | ((with_reducible refine store_mid (pre := [.inl n, .inl v, .inl s] ++ m.map Sum.inr ++ r.map Sum.inr) (x := c) (y := mac) (post := []) (t := 40) (C := C2) harrm (.tmp 9) (.tmp 8) ?_ ?_ (w.heap.size + 1) 67 ?_ HC2.out ?_ hR7' HL1.out HL2.out ?_); rfl; rfl; rfl; rfl; intro w8 hR8 hG8 hz8; have hR8a : Row cV w8 (w.heap.size + 1) 40 (recL n v s m r mac) := (by simpa [recL] using hR8); have hZ8 := hZ7.grown hG8 (by simp); have hz8' := Nat.le_trans hz7 (Nat.le_of_eq hz8.symm); have hbl8 := hbl7.grown hG8 (by omega) (by intro k e; cases e; omega); clear hR8 hG8)
    | ((with_reducible refine load_agg (f := cV) (l := recL n v s m r mac) harrR2 (.tmp 3) ?_ ?_ (w.heap.size + 1) 0 ?_ hR8a.at HC9.out ?_); rfl; rfl; rfl)
    | ((with_reducible refine store_agg (f := cV) (l := recL 0 0 0 (List.replicate 32 0) (List.replicate 32 0) (List.replicate 32 0)) (l' := recL n v s m r mac) (t := 40) (C := C9) harrR2 (.tmp 4) (.tmp 10) ?_ ?_ (w.heap.size + 1 + 1) ?_ ?_ ?_ hZ8 HLR.out cV_one ?_); rfl; rfl; rfl; exact HC9.out; rfl; intro w9 hR9 hG9 hz9))
  refine bodyPost_ret (v := .agg ((recL n v s m r mac).map cV).toArray) (results_agg (l := recL n v s m r mac) (f := cV) rfl _ harrR2 (w.heap.size + 1 + 1) 0 rfl hR9.at) rfl ?_
  exact ⟨_, rfl, Lib.hid (by rw [HMAC.out]), hbl8.grown hG9 (by omega) (fun k e => by cases e; omega)⟩
end Go.Proofs.YteglnpanimgelaaGreatDoor
