/- receipt.Signed. -/
import Derived.WalkKit
import Derived.Outline
import Derived.Lib.Hide
import Derived.OwnWalk
import Derived.WalkSmall
import Derived.Test.YteglnpanimgelaaGreatDoorIssue
import Derived.Test.YteglnpanimgelaaGreatDoorHeld
import Derived.Deep.RegionHeld
import Derived.Stop.BytesEq
namespace Go.Proofs.YteglnpanimgelaaGreatDoor
open Go.RowKit Mem
set_option maxRecDepth 100000

set_option maxHeartbeats 4000000 in
theorem signed (w : World) (tg : TypeId) (fg : Nat × Nat) (hg : w.heap[0]? = some (.cells (Sha.consts.map u32V).toArray tg fg)) (key : List UInt8) (hk : key.length = 32) (n v s : Int) (m r c : List UInt8) (hm : m.length = 32) (hr : r.length = 32) (hc : c.length = 32)
    (K0 C0 : Array Value) (HK : Hid (K0 = (key.map u8V).toArray)) (HC : Hid (C0 = ((recL n v s m r c).map cV).toArray)) :
    Calls Tryz.prog 17 #[.agg K0, .agg C0] w fun e w' => e = .returned (.bool (Sha.keyed key (Sha.msg n v s m r) == c)) ∧ Below w.heap.size w w' := by
  have hK0 : Row u8V ((w.alloc (.cells K0 23)).alloc (.cells C0 40)) w.heap.size 23 key := by have : Row u8V (w.alloc (.cells K0 23)) w.heap.size 23 key := Row.new w _ (by rw [HK.out])
                                                                                              exact this.alloc _
  have hR0 : Row cV ((w.alloc (.cells K0 23)).alloc (.cells C0 40)) (w.heap.size + 1) 40 (recL n v s m r c) := by
    have := Row.new (f := cV) (t := 40) (l := recL n v s m r c) (w.alloc (.cells K0 23)) (.cells C0 40) (by rw [HC.out])
    rwa [World.size_alloc] at this
  have hb0 : Below w.heap.size w ((w.alloc (.cells K0 23)).alloc (.cells C0 40)) := ((Below.refl _ w).alloc (Nat.le_refl _) _).alloc (by simp) _
  have harrk : AggT Tryz.prog 23 key.length := by rw [hk]; exact arr23
  have harrR : AggT Tryz.prog 40 (recL n v s m r c).length := by rw [recL_length, hm, hr, hc]; exact aggReceipt
  have harc : AggT Tryz.prog 23 c.length := by rw [hc]; exact arr23
  go_enter Tryz.func17, Tryz.ntmps17
  go_wp2_with fail
  have hs0 : ((w.alloc (.cells K0 23)).alloc (.cells C0 40)).heap.size = w.heap.size + 2 := by simp
  generalize (w.alloc (.cells K0 23)).alloc (.cells C0 40) = w0 at *
  obtain ⟨Cc, HCc⟩ : ∃ C, Hid (C = (c.map u8V).toArray) := ⟨_, Lib.hid rfl⟩
  refine wp_region_held_drew (S := fun w' => Row u8V w' w.heap.size 23 key ∧ Row cV w' (w.heap.size + 1) 40 (recL n v s m r c) ∧ Below w.heap.size w w' ∧ w.heap.size + 2 ≤ w'.heap.size) rfl ⟨hK0, hR0, hb0.drew, by simp; omega⟩ fun hS => ?_
  refine wpAnyH_take (i := 0) (v := .agg K0) rfl (by kernel_rfl) (by kernel_rfl) (by kernel_rfl) (fun c a w h => h) (yieldsIf_load (f := u8V) (l := key) harrk (.tmp 2) rfl w.heap.size 0 rfl (fun w h => h.1.at) HK.out rfl) hS ?_
  refine wpAnyH_take (i := 1) (v := .agg C0) rfl (by kernel_rfl) (by kernel_rfl) (by kernel_rfl) (fun c a w h => h) (yieldsIf_load (f := cV) (l := recL n v s m r c) harrR (.tmp 3) rfl (w.heap.size + 1) 0 rfl (fun w h => h.2.1.at) HC.out rfl) hS ?_
  refine wpAnyH_take (i := 4) (v := .pointer (some ⟨w.heap.size + 1, 67, none⟩)) rfl (by kernel_rfl) (by kernel_rfl) (by kernel_rfl) (fun c a w h => h) (yieldsIf_op rfl (fun w => rfl)) hS ?_
  refine wpAnyH_take (i := 5) (v := .agg Cc) rfl (by kernel_rfl) (by kernel_rfl) (by kernel_rfl) (fun c a w h => h) (yieldsIf_load (f := u8V) (l := c) harc (.tmp 9) rfl (w.heap.size + 1) 67 rfl (fun w h => At.mid (pre := [.inl n, .inl v, .inl s] ++ m.map .inr ++ r.map .inr) (post := []) (by simpa [recL] using h.2.1.at) 67 (by simp [hm, hr])) HCc.out rfl) hS ?_
  refine wpAnyH_ready (rs := [2]) (by kernel_rfl) (by simp) (AllReadyH.cons rfl (fun K' hK => ?_) AllReadyH.nil)
  refine held_call (g := 15) (args := #[.agg K0, .agg C0]) rfl (by first | kernel_rfl | (simp [execOp, resolve, invoke, Act.put, Act.eval]) | go_simp) ?_
  have hg0 : w0.drew.heap[0]? = some (.cells (Sha.consts.map u32V).toArray tg fg) := (hS.2.2.1.block 0 (Array.getElem?_eq_some_iff.1 hg).1).trans hg
  refine (issue w0.drew tg fg hg0 key hk n v s m r c hm hr hc K0 C0 HK HC).mono ?_
  rintro e w1 ⟨C1, rfl, HC1, hB1⟩
  have hS1 : Row u8V w1 w.heap.size 23 key ∧ Row cV w1 (w.heap.size + 1) 40 (recL n v s m r c) ∧ Below w.heap.size w w1 ∧ w.heap.size + 2 ≤ w1.heap.size := ⟨hS.1.below hB1 hS.1.lt, hS.2.1.below hB1 hS.2.1.lt, hS.2.2.1.trans (hB1.mono hS.2.2.1.size), Nat.le_trans hS.2.2.2 hB1.size⟩
  refine ⟨_, rfl, hK.out _ _ hS1 fun _ => ?_⟩
  have HM := Lib.hid (keyed_length key (Sha.msg n v s m r))
  obtain ⟨mac, HMAC⟩ : ∃ x, Hid (Sha.keyed key (Sha.msg n v s m r) = x) := ⟨_, Lib.hid rfl⟩
  rw [HMAC.out] at HC1 HM
  have hCM : C1.extract 67 99 = (mac.map u8V).toArray := by
    rw [HC1.out]
    apply Array.toList_inj.1
    simp [recL, List.drop_append, List.take_of_length_le, hm, hr, HM.out]
    rw [List.drop_eq_nil_of_le (by simp [hm])]
    rfl
  refine wpAnyH_take (i := 3) (v := .agg (mac.map u8V).toArray) rfl (by kernel_rfl) (by kernel_rfl) (by kernel_rfl) (fun c a w h => h) (yieldsIf_op rfl (fun w => by rw [← hCM]; first | kernel_rfl | go_simp)) hS1 ?_
  refine wpAnyH_take (i := 6) (v := .bool (mac == c)) rfl (by kernel_rfl) (by kernel_rfl) (by kernel_rfl) (fun c a w h => h) (yieldsIf_op rfl (fun w => by
    have h := run_eql_bytes (P := Tryz.prog) w 23 5 32 Tryz.underlying23 Tryz.underlying5 (fun _ => rfl) mac c HM.out hc
    have e2 : (Cc = (c.map u8V).toArray) := HCc.out
    subst e2
    simp [execOp, Act.put, Act.eval, eqGuard]
    have h' : (binOp .eql 23 (.agg (mac.map u8V).toArray) (.agg (c.map u8V).toArray)).run Tryz.prog w = .ok (.bool (mac == c)) w := h
    rw [h']
    rfl)) hS1 ?_
  refine wpAnyH_take (i := 7) (v := .bool (mac == c)) rfl (by kernel_rfl) (by kernel_rfl) (by kernel_rfl) (fun c a w h => h) (yieldsIf_op rfl (fun w => by first | kernel_rfl | rfl | go_simp)) hS1 ?_
  refine wpAnyH_done (by kernel_rfl) ?_ _
  go_wp2
  go_ret
  exact ⟨by rw [HMAC.out]; rfl, hS1.2.2.1⟩
end Go.Proofs.YteglnpanimgelaaGreatDoor
