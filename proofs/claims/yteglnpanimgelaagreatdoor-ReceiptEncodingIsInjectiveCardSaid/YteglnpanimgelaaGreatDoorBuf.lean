/- A variable that holds an owned slice which grows (receipt's buffer): what a step on it may change. -/
import Derived.Test.YteglnpanimgelaaGreatDoorStep
namespace Go.Proofs.YteglnpanimgelaaGreatDoor.Mem
open Go Go.RowKit

/-- from w to w' only the variable pb, the row that v owns and new blocks have changed; v' owns that row or a new one -/
structure BufStep (w w' : World) (pb : Nat) (v v' : Value) : Prop where
  os : w'.os = w.os
  tape : w'.tape = w.tape
  output : w'.output = w.output
  size : w.heap.size ≤ w'.heap.size
  block : ∀ k, k < w.heap.size → k ≠ pb → some k ≠ v.ownBlock → w'.heap[k]? = w.heap[k]?
  own : v'.ownBlock = v.ownBlock ∨ ∀ g, v'.ownBlock = some g → w.heap.size ≤ g

variable {w w' w1 : World} {pb B : Nat} {v v' v'' : Value}
theorem BufStep.refl (w : World) (pb : Nat) (v : Value) : BufStep w w pb v v := ⟨rfl, rfl, rfl, Nat.le_refl _, fun _ _ _ _ => rfl, .inl rfl⟩
theorem BufStep.trans (h : BufStep w w' pb v v') (k : BufStep w' w1 pb v' v'') : BufStep w w1 pb v v'' := by
  refine ⟨k.os.trans h.os, k.tape.trans h.tape, k.output.trans h.output, Nat.le_trans h.size k.size, fun i hi hp hv => ?_, ?_⟩
  · refine (k.block i (Nat.lt_of_lt_of_le hi h.size) hp ?_).trans (h.block i hi hp hv)
    rcases h.own with e | e
    · rw [e]; exact hv
    · intro q; have := e i q.symm; omega
  · rcases k.own with e | e
    · rcases h.own with e2 | e2
      · exact .inl (e.trans e2)
      · exact .inr fun g hg => e2 g (by rw [← e]; exact hg)
    · exact .inr fun g hg => Nat.le_trans h.size (e g hg)
theorem BufStep.below (h : BufStep w w' pb v v') (hB : B ≤ pb) (hv : ∀ g, v.ownBlock = some g → B ≤ g) (hz : pb < w.heap.size) : Below B w w' :=
  ⟨h.os, h.tape, h.output, h.size, fun k hk => h.block k (by omega) (by omega) (fun e => by have := hv k e.symm; omega)⟩
/-- one append, then the variable is set -/
theorem BufStep.app {e1 : TypeId} {u : Value} {w2 : World} (hg : (w.alloc (.cells #[u] e1)).grownBy w2 v.ownBlock) (ho : v'.ownBlock = v.ownBlock ∨ v'.ownBlock = some (w.heap.size + 1)) : BufStep w (w2.setCell ⟨pb, 0, none⟩ v') pb v v' := by
  refine ⟨hg.os, hg.tape, hg.output, ?_, fun k hk hp hv => ?_, ?_⟩
  · have := hg.size; simp at this ⊢; omega
  · exact (Below.heap_setCell _ _ _ _ (by exact hp)).trans ((hg.block k (by simp; omega) hv).trans (Below.heap_alloc _ _ _ hk))
  · rcases ho with e | e
    · exact .inl e
    · exact .inr fun g hg' => by rw [e] at hg'; cases hg'; omega

/-- the variable pb holds v, which reads as l and owns a row from B on -/
structure Buf {α : Type} (f : α → Value) (w : World) (pb : Nat) (t : TypeId) (B : Nat) (e : TypeId) (v : Value) (l : List α) : Prop where
  cell : w.heap[pb]? = some (.cells #[v] t (0, 0))
  own : Own f w B e v l
  lt : pb < B
theorem cell_var {t : TypeId} (h : w.heap[pb]? = some (.cells #[v] t (0, 0))) : w.cell? ⟨pb, 0, none⟩ = some v := by unfold World.cell?; rw [h]; rfl
theorem frozen_var {t : TypeId} (h : w.heap[pb]? = some (.cells #[v] t (0, 0))) : w.frozen? ⟨pb, 0, none⟩ = false := by unfold World.frozen?; rw [h]; rfl
theorem set_var {t : TypeId} (h : w.heap[pb]? = some (.cells #[v] t (0, 0))) (v' : Value) : (w.setCell ⟨pb, 0, none⟩ v').heap[pb]? = some (.cells #[v'] t (0, 0)) := by
  simp only [World.setCell, Array.getElem?_modify, h]
  simp
theorem own_set_var {α : Type} {f : α → Value} {e : TypeId} {l : List α} (h : Own f w B e v l) (hp : pb < B) (u : Value) : Own f (w.setCell ⟨pb, 0, none⟩ u) B e v l :=
  ownsRow_setCell_below h hp u
end Go.Proofs.YteglnpanimgelaaGreatDoor.Mem
namespace Go.Proofs.YteglnpanimgelaaGreatDoor.Sha
/-- the n low bytes of a number -/
def le (x n : Nat) : List UInt8 := (List.range n).map fun i => UInt8.ofNat (x >>> (8 * i))
theorem le_succ (x n : Nat) : le x (n + 1) = le x n ++ [UInt8.ofNat (x >>> (8 * n))] := by simp [le, List.range_succ]
theorem le_length (x n : Nat) : (le x n).length = n := by simp [le]
/-- an int as 64 bits -/
def u64 (x : Int) : Nat := (x % 18446744073709551616).toNat
end Go.Proofs.YteglnpanimgelaaGreatDoor.Sha
