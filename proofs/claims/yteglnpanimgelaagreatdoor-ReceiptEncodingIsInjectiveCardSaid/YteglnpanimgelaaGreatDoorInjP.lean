/- Plain Lean: a clipped record is short; its encoding says it whole. -/
import Derived.Test.YteglnpanimgelaaGreatDoorRecord
import Derived.Test.YteglnpanimgelaaGreatDoorSameRec
import Derived.Test.YteglnpanimgelaaGreatDoorPlain
namespace Go.Proofs.YteglnpanimgelaaGreatDoor.Sha

theorem cut_short (f : F) : (cut f).1.data.toList.length ≤ 20 ∧ (cut f).2.length ≤ 40 := by
  constructor
  · show ((f.1.extract 0 (min f.1.size 20)).data.toList).length ≤ 20
    have : (f.1.extract 0 (min f.1.size 20)).size ≤ 20 := by rw [ByteArray.size_extract]; omega
    simpa using this
  · show (f.2.take (min f.2.length 40)).length ≤ 40
    rw [List.length_take]; omega
theorem clip_len (fs : List F) : (clip fs).length ≤ 5 := by simp [clip]; omega
theorem clip_short (fs : List F) : Short (clip fs) := by
  intro f hf
  obtain ⟨g, _, rfl⟩ := List.mem_map.1 hf
  have := cut_short g
  omega
theorem encs_len (fs : List F) (h : ∀ f ∈ fs, (encF f).length ≤ 68) : ((fs.map encF).flatten).length ≤ 68 * fs.length := by
  induction fs with
  | nil => simp
  | cons f fs ih =>
    have h1 := h f (by simp)
    have h2 := ih (fun g hg => h g (by simp [hg]))
    simp only [List.map_cons, List.flatten_cons, List.length_append, List.length_cons]
    omega
theorem clip_enc (ok : Bool) (c : Int) (fs : List F) : (enc ok c (clip fs)).length ≤ 900000000 := by
  have h := encs_len (clip fs) (fun f hf => by
    obtain ⟨g, _, rfl⟩ := List.mem_map.1 hf
    have := cut_short g
    simp only [encF, lb, List.length_append, le_length]
    omega)
  have := clip_len fs
  have hL : (enc ok c (clip fs)).length = 13 + (((clip fs).map encF).flatten).length := by simp [enc, le_length]; omega
  omega
theorem clip_eq (ok1 ok2 : Bool) (c1 c2 : Int) (hc1 : -9223372036854775808 ≤ c1 ∧ c1 ≤ 9223372036854775807) (hc2 : -9223372036854775808 ≤ c2 ∧ c2 ≤ 9223372036854775807) (fs gs : List F) :
    (enc ok1 c1 (clip fs) == enc ok2 c2 (clip gs)) = sameRec ok1 ok2 c1 c2 (clip fs) (clip gs) := by
  rw [Bool.eq_iff_iff]
  simp only [sameRec, Bool.and_eq_true, beq_iff_eq, decide_eq_true_eq]
  constructor
  · intro h
    obtain ⟨h1, h2, h3⟩ := enc_inj ok1 ok2 c1 c2 _ _ hc1 hc2 (clip_short fs) (clip_short gs) (by have := clip_len fs; omega) (by have := clip_len gs; omega) h
    exact ⟨⟨h1, h2⟩, h3⟩
  · rintro ⟨⟨rfl, rfl⟩, h⟩
    rw [h]
end Go.Proofs.YteglnpanimgelaaGreatDoor.Sha
