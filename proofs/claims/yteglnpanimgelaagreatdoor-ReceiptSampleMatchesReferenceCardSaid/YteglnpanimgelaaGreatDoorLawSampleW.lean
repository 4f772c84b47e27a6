/- Law: receipt.Sample agrees with the reference. Of every seed, number and rate. -/
import Derived.Test.YteglnpanimgelaaGreatDoorSanity
namespace Go.Proofs.YteglnpanimgelaaGreatDoor
open Go.RowKit Mem
set_option maxRecDepth 100000

theorem refSample (w : World) (seed : List UInt8) (hsl : seed.length = 32) (K0 : Array Value) (HK : Hid (K0 = (seed.map u8V).toArray)) (n rate : Int) :
    Calls Tryz.prog 9 #[.agg K0, .int .i64 n, .int .i64 rate] w fun e w' => ∃ v, e = .returned (.tuple #[v, .int .i64 (Sha.sampErr n rate)]) ∧ Rd iV w' v (Sha.sampL seed n rate) ∧ Below w.heap.size w w' := by
  cases h : Sha.sampOk n rate with
  | false =>
    refine (refSampleNo w K0 n rate h).mono ?_
    rintro e w' ⟨rfl, hb⟩
    exact ⟨_, by simp [Sha.sampErr, h], .inl ⟨rfl, by simp [Sha.sampL, h]⟩, hb⟩
  | true =>
    obtain ⟨h1, h2, h3, h4⟩ := Sha.sampOk_yes h
    obtain ⟨m, rfl⟩ := Int.eq_ofNat_of_zero_le h1
    obtain ⟨r, rfl⟩ := Int.eq_ofNat_of_zero_le (show 0 ≤ rate by omega)
    refine (refSampleYes w seed hsl K0 HK m r (by omega) (by omega) (by omega)).mono ?_
    rintro e w' ⟨v, rfl, hO, hb⟩
    refine ⟨v, by simp [Sha.sampErr, h], ?_, hb⟩
    have := hO.rd
    simpa [Sha.sampL, h] using this

namespace LawSample
set_option maxHeartbeats 4000000 in
theorem walk (w : World) (tg : TypeId) (fg : Nat × Nat) (hg : w.heap[0]? = some (.cells (Sha.consts.map u32V).toArray tg fg)) (seed : List UInt8) (hsl : seed.length = 32) (K0 : Array Value) (HK : Hid (K0 = (seed.map u8V).toArray)) (n rate : Int) :
    Calls Tryz.prog 3 #[.agg K0, .int .i64 n, .int .i64 rate] w fun e w' => e = .returned (.bool true) ∧ Below w.heap.size w w' := by
  have harr : AggT Tryz.prog 23 seed.length := by rw [hsl]; exact arr23
  have HSL := Lib.hid hsl
  have h0 : 0 < w.heap.size := (Array.getElem?_eq_some_iff.1 hg).1
  have HG := Lib.hid (fun (W : World) (h : Below w.heap.size w W) => (h.block 0 h0).trans hg)
  clear hg hsl
  have HLEN := Lib.hid (Sha.sampL_len seed n rate)
  go_enter Tryz.func3, Tryz.ntmps3
  go_wp2_with fail
  have hR0 : Row u8V (w.alloc (.cells K0 23)) w.heap.size 23 seed := Row.new w _ (by rw [HK.out])
  have hb0 : Below w.heap.size w (w.alloc (.cells K0 23)) := (Below.refl _ _).alloc (Nat.le_refl _) _
  generalize w.alloc (.cells K0 23) = w0 at *
  refine (sanity w0 tg fg (HG.out _ hb0)).mono ?_
  rintro e w1 ⟨rfl, hB1⟩
  have hR1 := hR0.below hB1 hR0.lt
  have hb1 := hb0.trans (hB1.mono hb0.size)
  clear hB1 hR0 hb0
  go_wp2_with ((with_reducible refine load_agg (f := u8V) (l := seed) harr (.tmp 3) ?_ ?_ w.heap.size 0 ?_ hR1.at HK.out ?_); rfl; rfl; rfl)
  refine (sample w1 tg fg (HG.out _ hb1) seed HSL.out K0 HK n rate).mono ?_
  rintro e w2 ⟨v2, rfl, hr2, hB2⟩
  have hR2 := hR1.below hB2 hR1.lt
  have hb2 := hb1.trans (hB2.mono hb1.size)
  clear hB2 hR1 hb1
  go_wp2_with ((with_reducible refine load_agg (f := u8V) (l := seed) harr (.tmp 3) ?_ ?_ w.heap.size 0 ?_ hR2.at HK.out ?_); rfl; rfl; rfl)
  refine (refSample w2 seed HSL.out K0 HK n rate).mono ?_
  rintro e w3 ⟨v3, rfl, hr3, hB3⟩
  have hr2' := hr2.below hB3
  have hb3 := hb2.trans (hB3.mono hb2.size)
  clear hB3 hR2 hb2 hr2
  generalize Sha.sampErr n rate = er
  go_wp2_with fail
  refine (refSameInts w3 v2 v3 _ _ hr2' hr3 (by have := HLEN.out; omega)).mono ?_
  rintro e w4 ⟨rfl, hB4⟩
  rw [beq_self_eq_true]
  have hb4 := hb3.trans (hB4.mono hb3.size)
  clear hB4 hb3 hr3 hr2'
  go_wp2
  go_ret
  exact ⟨rfl, hb4⟩

end LawSample
end Go.Proofs.YteglnpanimgelaaGreatDoor
