/- Plain: what the law on nested samples asks of them. -/
import Derived.Test.YteglnpanimgelaaGreatDoorPlain
namespace Go.Proofs.YteglnpanimgelaaGreatDoor.Sha

structure Nested (lo hi : Nat) (la lb lc : List Int) : Prop where
  le : la.length ≤ lb.length
  all : lc.length = hi
  big : lb.length ≤ hi
  pre : ∀ i, i < la.length → la[i]?.getD 0 = lb[i]?.getD 0
  rest : ∀ i, i < lb.length → la.length ≤ i → (lo : Int) ≤ lb[i]?.getD 0
  range : ∀ i, i < lb.length → 0 ≤ lb[i]?.getD 0 ∧ lb[i]?.getD 0 < (hi : Int)
  up : ∀ i, i + 1 < lb.length → lb[i]?.getD 0 < lb[i + 1]?.getD 0
  id : ∀ i, i < lc.length → lc[i]?.getD 0 = (i : Int)
theorem nested (seed : List UInt8) (k lo hi : Nat) (h : lo ≤ hi) : Nested lo hi (samp seed k lo) (samp seed k hi) (samp seed 1 hi) := by
  obtain ⟨r, h1, h2⟩ := samp_prefix seed k h
  refine ⟨by rw [h1]; simp, by rw [samp_all]; simp, samp_len _ _ _, fun i hi => ?_, fun i hi hl => ?_, fun i hi => ?_, fun i hi => ?_, fun i hi => ?_⟩
  · rw [h1, List.getElem?_append_left hi]
  · rw [h1] at hi ⊢
    rw [List.getElem?_append_right hl]
    have hi2 : i - (samp seed k lo).length < r.length := by simp at hi; omega
    rw [List.getElem?_eq_getElem hi2]
    exact (h2 _ (List.getElem_mem hi2)).1
  · rw [List.getElem?_eq_getElem hi]
    exact samp_range _ _ _ _ (List.getElem_mem hi)
  · rw [List.getElem?_eq_getElem hi, List.getElem?_eq_getElem (show i < _ by omega)]
    exact List.pairwise_iff_getElem.1 (samp_sorted seed k _) i (i + 1) (by omega) hi (by omega)
  · rw [List.getElem?_eq_getElem hi]
    simp [samp_all]
end Go.Proofs.YteglnpanimgelaaGreatDoor.Sha
