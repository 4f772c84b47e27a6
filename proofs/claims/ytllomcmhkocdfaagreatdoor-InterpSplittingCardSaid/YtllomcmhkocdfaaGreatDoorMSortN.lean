/- slices.Sort and slices.Compact at a list of strings of the call's own. -/
import Derived.Sort.OwnSorted
import Derived.Lib.OwnBridge
import Derived.Test.YtllomcmhkocdfaaGreatDoorMShelf
import Derived.Test.YtllomcmhkocdfaaGreatDoorMOwn
namespace Go.Proofs.YtllomcmhkocdfaaGreatDoor
open Go Go.RowKit Mem
set_option maxRecDepth 100000

theorem encStr_one (x : List UInt8) : (Go.Proofs.encStr x).oneCell' = true := rfl
abbrev srt (l : List (List UInt8)) : List (List UInt8) := l.mergeSort fun x y => decide (x ≤ y)
theorem sortOwn (w : World) (base : Nat) (v : Value) (l : List (List UInt8)) (ho : Mem.Own Go.Proofs.encStr w base 9 v l) (hl : l.length ≤ 4096) :
    Calls Tryz.prog 31 #[v] w fun e w' => e = .returned (.tuple #[]) ∧ Mem.Own Go.Proofs.encStr w' base 9 v (srt l) ∧ w.grownBy w' v.ownBlock := by
  by_cases hv : v = .slice none 0 0
  · subst hv
    have hl0 : l = [] := by
      obtain ⟨p, c, h⟩ := ho.slice
      injection h with _ h _
      exact List.eq_nil_of_length_eq_zero h.symm
    subst hl0
    refine (Tryz.slices_Sort_string_none none 0 w).mono ?_
    rintro e w' ⟨rfl, rfl⟩
    exact ⟨rfl, by simpa [srt] using ho, ⟨rfl, rfl, rfl, Nat.le_refl _, fun _ _ _ => rfl⟩⟩
  · obtain ⟨g, cap, rfl, hb, hg, hn, hm, _, hH⟩ := Lib.holds_of_ownsRow ho hv
    refine (Tryz.slices_Sort_string g 0 cap l w hH hg (by omega)).mono ?_
    rintro e w' ⟨rfl, n, os, rfl⟩
    have hls : (srt l).length = l.length := List.length_mergeSort l
    rcases ho.2 with ⟨h0, _⟩ | ⟨g', cap', cur, he, hbg, hh, h1, h2, h3, h4⟩
    · cases h0
    · injection he with e1 _ e3
      injection e1 with e1
      injection e1 with e1
      subst e1 e3
      refine ⟨rfl, ?_, Go.grownBy_sorted _⟩
      have := Go.ownsRow_sorted (n := n) (os := os) (ts := srt l) hls hbg hh h1 h2 h3
      unfold Mem.Own
      rw [hls]
      exact this
theorem compactOwn (w : World) (base : Nat) (v : Value) (l : List (List UInt8)) (ho : Mem.Own Go.Proofs.encStr w base 9 v l) (hl : l.length ≤ 4096) :
    Calls Tryz.prog 32 #[v] w fun e w' => ∃ p c, e = .returned (.slice p (Lib.compact l).length c) ∧ Mem.Own Go.Proofs.encStr w' base 9 (.slice p (Lib.compact l).length c) (Lib.compact l) ∧ w.grownBy w' v.ownBlock := by
  by_cases hv : v = .slice none 0 0
  · subst hv
    have hl0 : l = [] := by
      obtain ⟨p, c, h⟩ := ho.slice
      injection h with _ h _
      exact List.eq_nil_of_length_eq_zero h.symm
    subst hl0
    refine (Tryz.slices_Compact_string_empty none 0 w).mono ?_
    rintro e w' ⟨rfl, rfl⟩
    exact ⟨none, 0, rfl, ho, ⟨rfl, rfl, rfl, Nat.le_refl _, fun _ _ _ => rfl⟩⟩
  · obtain ⟨g, cap, rfl, hb, hg, hn, hm, _, hH⟩ := Lib.holds_of_ownsRow ho hv
    have hcl := Lib.compact_length_le l
    refine (Tryz.slices_Compact_string g 0 cap l w hH (by omega) hn).mono ?_
    rintro e w' ⟨rfl, q, rfl⟩
    refine ⟨_, cap, rfl, ?_, ?_⟩
    · have := Lib.ownsRow_putRow (q := q) (k := (Lib.compact l).length) (ys := Lib.compact l ++ List.replicate (l.length - (Lib.compact l).length) []) ho (by simp; omega) hcl
      rw [List.take_left] at this
      exact this
    · have h := Lib.below_putRow (enc := Go.Proofs.encStr) (q := q) (d := (Lib.compact l ++ List.replicate (l.length - (Lib.compact l).length) []).toArray) (Below.refl g w) (Nat.le_refl g)
      refine ⟨h.os, h.tape, h.output, h.size, fun k hk hne => ?_⟩
      have : g ≠ k := fun e => hne (by rw [e]; rfl)
      simp [Sort.putRow, Sort.mapBlock, Sort.ahead, Array.getElem?_modify, this]
end Go.Proofs.YtllomcmhkocdfaaGreatDoor
