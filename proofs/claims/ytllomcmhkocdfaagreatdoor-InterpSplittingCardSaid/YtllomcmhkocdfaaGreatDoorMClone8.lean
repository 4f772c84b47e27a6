/- slices.Clone at bytes. -/
import Derived.Test.YtllomcmhkocdfaaGreatDoorMTree
import Derived.Test.YtllomcmhkocdfaaGreatDoorMOwnIn
import Derived.Lib.SliceRun
namespace Go.Proofs.YtllomcmhkocdfaaGreatDoor
open Go.RowKit Mem
set_option maxRecDepth 100000

theorem elt8 : Elt Tryz.prog 22 5 1 := Elt.mk' (z := .int .u8 0) Tryz.underlying22 (by kernel_rfl) rfl
theorem clone8 (w : World) (u : Value) (m : List UInt8) (hr : Rd u8V w u m) (hm : m.length ≤ 1099511627776) :
    Calls Tryz.prog 21 #[u] w fun e w' => ∃ u', e = .returned u' ∧ Mem.Own u8V w' w.heap.size 5 u' m ∧ Below w.heap.size w w' := by
  have q22 : ∀ (w : World) (a : Option Addr) (n c n' c' : Nat), (binOp .eql 22 (.slice a n c) (.slice none n' c')).run Tryz.prog w = .ok (.bool a.isNone) w := fun w a n c n' c' => Lib.run_eql_slice_nil w _ _ a n c n' c' Tryz.underlying22
  have HR := Lib.hid hr
  obtain ⟨p, c, rfl⟩ := hr.slice
  clear hr
  cases p with
  | none =>
    have hm0 : m = [] := by
      rcases HR.out with ⟨_, _, h⟩ | ⟨b, o, cap, h, _⟩
      · exact h
      · simp at h
    subst hm0
    go_enter Tryz.func21, Tryz.ntmps21
    go_wp2
    go_ret
    exact ⟨_, rfl, Own.nil _ _ _, Below.refl _ _⟩
  | some a =>
    have hO : Mem.Own u8V (w.alloc (.cells #[] 5)) w.heap.size 5 (.slice (some ⟨w.heap.size, 0, none⟩) 0 0) [] := Own.new w _ w.heap.size (Nat.le_refl _) rfl (by simp)
    have hR2 := HR.out.alloc (.cells #[] 5)
    go_enter Tryz.func21, Tryz.ntmps21
    go_wp2_with (at_builtin; (with_reducible refine append_rd elt8 (.tmp 5) (.tmp 6) ?_ ?_ u8V_one ?_ hO m _ ?_ hR2 ?_ ?_ ?_ m ?_ ?_); rfl; rfl; rfl; rfl; (simp; omega); (simp; omega); (simp); rfl; intro p3 c3 w3 hO3 hB3 hG3)
    go_ret
    exact ⟨_, rfl, hO3, ((Below.refl _ _).alloc (Nat.le_refl _) _).trans hB3⟩
end Go.Proofs.YtllomcmhkocdfaaGreatDoor
