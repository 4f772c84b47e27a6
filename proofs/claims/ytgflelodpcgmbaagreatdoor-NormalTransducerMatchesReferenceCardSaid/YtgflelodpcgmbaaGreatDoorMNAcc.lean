/- The stream's accepted. -/
import Derived.Test.YtgflelodpcgmbaaGreatDoorMNValid
import Derived.BigQuiet
import Derived.RegionTactic
namespace Go.Proofs.YtgflelodpcgmbaaGreatDoor
open Go Go.RowKit Mem
set_option maxRecDepth 100000

set_option maxHeartbeats 8000000 in
theorem nAccepted (w : World) (xb : Nat) (k : Nat) (r : Bool) (vc vr out : OC) (pe : Option Addr) (ke : Nat) (ends : List Bool) (hx : Row oV w xb 73 (stL k r vc vr (slO pe ends.length ke) out)) (he : Rd Value.bool w (.slice pe ends.length ke) ends) (hk : k < ends.length) :
    Calls Tryz.prog 39 #[.pointer (some ⟨xb, 0, none⟩)] w fun e w' => e = .returned (.bool (!r && ends[k])) ∧ Below w.heap.size w w' := by
  obtain ⟨be, oe, rfl, hA⟩ : ∃ b o, pe = some ⟨b, o, none⟩ ∧ At Value.bool w b o ends := by
    rcases he with ⟨_, _, h0⟩ | ⟨b, o, cap, h1, _, ha, _⟩
    · rw [h0] at hk; simp at hk
    · cases h1; exact ⟨b, o, rfl, ha⟩
  have ce : w.cell? ⟨be, oe + k, none⟩ = some (.bool ends[k]) := by rw [hA k hk, List.getElem?_eq_getElem hk]; rfl
  have c0 : w.cell? ⟨xb, 0, none⟩ = some (.int .i64 k) := by rw [hx.cell?]; rfl
  have c1 : w.cell? ⟨xb, 1, none⟩ = some (.bool r) := by rw [hx.cell?]; rfl
  have c4 : w.cell? ⟨xb, 4, none⟩ = some (.slice (some ⟨be, oe, none⟩) ends.length ke) := by rw [hx.cell?]; rfl
  have hq : (k : Int) < (ends.length : Int) := by omega
  have hq0 : decide ((k : Int) < 0) = false := decide_eq_false (by omega)
  have hq1 : decide ((ends.length : Int) ≤ (k : Int)) = false := decide_eq_false (by omega)
  have hB : ∀ n, Below w.heap.size w (w.drewN n) := fun n => ⟨rfl, rfl, rfl, Nat.le_refl _, fun _ _ => rfl⟩
  clear hA hx he
  generalize hek : ends[k] = ek at ce ⊢
  cases r with
  | true =>
    go_enter Tryz.func39, Tryz.ntmps39
    go_wp2_with fail
    go_region
    go_wp2
    go_ret
    exact ⟨rfl, hB 1⟩
  | false =>
    go_enter Tryz.func39, Tryz.ntmps39
    go_wp2_with fail
    go_region
    go_wp2
    go_ret
    exact ⟨by simp, hB 1⟩
end Go.Proofs.YtgflelodpcgmbaaGreatDoor
