/- append as one step of a region that draws its order; the exact frame of an append to an owned slice. -/
import Derived.Test.YtllomcmhkocdfaaGreatDoorMOwn
import Derived.Maps.AppendAt
import Derived.Deep.RegionLaw
namespace Go.Proofs.YtllomcmhkocdfaaGreatDoor.Mem
open Go Go.RowKit

variable {α : Type} {f : α → Value} {w w' : World} {base : Nat} {e : TypeId} {v : Value} {l : List α}
variable {P : Program} {ops : Array Oper} {rest : List Oper} {o : Oper} {a : Act} {Q : Exit → Act → World → Prop}

theorem run_app_ad {t ty : TypeId} {bytes : Nat} (E : Elt P t e bytes) (h1 : ∀ x, (f x).oneCell' = true) (hown : Own f w base e v l) (ad : Addr) (c : Nat) (m : List α) (hat : ∀ j, j < m.length → w.cell? (ad.add j) = m[j]?.map f)
    (hn : (l.length + m.length) * bytes ≤ 140737488355328) (hn2 : l.length + m.length ≤ 140737488355328) (hbase : base ≤ w.heap.size) (r : List α) (hr : l ++ m = r) :
    ∃ p cap w', (Builtin.append_ #[t, t] ty #[v, .slice (some ad) m.length c]).run P w = .ok (.slice p r.length cap) w' ∧ Own f w' base e (.slice p r.length cap) r ∧ w.grownBy w' v.ownBlock ∧
      ((Value.slice p r.length cap).ownBlock = v.ownBlock ∨ (Value.slice p r.length cap).ownBlock = some w.heap.size) := by
  obtain ⟨i, z, hi, hz, hs1, hby, hz1⟩ := E.hi
  obtain ⟨v', w', hrun, h2, h3, _, h5⟩ := run_append_own_at (P := P) w base t ty e i z 1 bytes E.ht hi hz hs1 hby hz1 (by decide) v l.length (l.map f) hown ad m.length c (m.map f) (by simp) (by
    intro j u hj
    rw [List.getElem?_map] at hj
    by_cases hjl : j < m.length
    · rw [hat j hjl, hj]
    · rw [List.getElem?_eq_none (by omega)] at hj; cases hj) (by
    intro u hu
    obtain ⟨y, _, rfl⟩ := List.mem_map.1 hu
    exact h1 y) (by unfold maxLen; omega) hn hbase
  have ho' : Own f w' base e v' r := by unfold Own; rw [← hr, List.length_append, List.map_append]; exact h2
  obtain ⟨p, cap, rfl⟩ := ho'.slice
  exact ⟨p, cap, w', hrun, ho', h3, h5⟩

theorem run_app {t ty : TypeId} {bytes : Nat} (E : Elt P t e bytes) (h1 : ∀ x, (f x).oneCell' = true) (hown : Own f w base e v l) (b off c : Nat) (m : List α) (hat : At f w b off m)
    (hn : (l.length + m.length) * bytes ≤ 140737488355328) (hn2 : l.length + m.length ≤ 140737488355328) (hbase : base ≤ w.heap.size) (r : List α) (hr : l ++ m = r) :
    ∃ p cap w', (Builtin.append_ #[t, t] ty #[v, .slice (some ⟨b, off, none⟩) m.length c]).run P w = .ok (.slice p r.length cap) w' ∧ Own f w' base e (.slice p r.length cap) r ∧ w.grownBy w' v.ownBlock ∧
      ((Value.slice p r.length cap).ownBlock = v.ownBlock ∨ (Value.slice p r.length cap).ownBlock = some w.heap.size) :=
  run_app_ad E h1 hown ⟨b, off, none⟩ c m (fun j hj => by
    have h2 : ((⟨b, off, none⟩ : Addr).add j) = ⟨b, off + j, none⟩ := by unfold Addr.add; split <;> simp_all
    rw [h2, hat j hj]) hn hn2 hbase r hr

end Go.Proofs.YtllomcmhkocdfaaGreatDoor.Mem

/- A variable that holds an owned slice which grows (receipt's buffer): what a step on it may change. -/
namespace Go.Proofs.YtllomcmhkocdfaaGreatDoor.Mem
open Go Go.RowKit

/-- from w to w' only the variable pb, the row that v owns and new blocks have changed; v' owns that row or a new one -/
structure BufStep (w w' : World) (pb : Nat) (v v' : Value) : Prop where
  os : w'.os = w.os
  tape : w'.tape = w.tape
  output : w'.output = w.output
  size : w.heap.size ≤ w'.heap.size
  block : ∀ k, k < w.heap.size → k ≠ pb → some k ≠ v.ownBlock → w'.heap[k]? = w.heap[k]?
  own : v'.ownBlock = v.ownBlock ∨ ∀ g, v'.ownBlock = some g → w.heap.size ≤ g

variable {w w' w1 : World} {pb B : Nat} {v v' v'' : Value}
theorem BufStep.refl (w : World) (pb : Nat) (v : Value) : BufStep w w pb v v := ⟨rfl, rfl, rfl, Nat.le_refl _, fun _ _ _ _ => rfl, .inl rfl⟩
theorem BufStep.trans (h : BufStep w w' pb v v') (k : BufStep w' w1 pb v' v'') : BufStep w w1 pb v v'' := by
  refine ⟨k.os.trans h.os, k.tape.trans h.tape, k.output.trans h.output, Nat.le_trans h.size k.size, fun i hi hp hv => ?_, ?_⟩
  · refine (k.block i (Nat.lt_of_lt_of_le hi h.size) hp ?_).trans (h.block i hi hp hv)
    rcases h.own with e | e
    · rw [e]; exact hv
    · intro q; have := e i q.symm; omega
  · rcases k.own with e | e
    · rcases h.own with e2 | e2
      · exact .inl (e.trans e2)
      · exact .inr fun g hg => e2 g (by rw [← e]; exact hg)
    · exact .inr fun g hg => Nat.le_trans h.size (e g hg)
theorem BufStep.below (h : BufStep w w' pb v v') (hB : B ≤ pb) (hv : ∀ g, v.ownBlock = some g → B ≤ g) (hz : pb < w.heap.size) : Below B w w' :=
  ⟨h.os, h.tape, h.output, h.size, fun k hk => h.block k (by omega) (by omega) (fun e => by have := hv k e.symm; omega)⟩
end Go.Proofs.YtllomcmhkocdfaaGreatDoor.Mem
namespace Go.Proofs.YtllomcmhkocdfaaGreatDoor.Sha
/-- the n low bytes of a number -/
def le (x n : Nat) : List UInt8 := (List.range n).map fun i => UInt8.ofNat (x >>> (8 * i))
theorem le_succ (x n : Nat) : le x (n + 1) = le x n ++ [UInt8.ofNat (x >>> (8 * n))] := by simp [le, List.range_succ]
/-- an int as 64 bits -/
def u64 (x : Int) : Nat := (x % 18446744073709551616).toNat
end Go.Proofs.YtllomcmhkocdfaaGreatDoor.Sha

/- append of a slice of another (named) type; what is appended may be nil. -/
namespace Go.Proofs.YtllomcmhkocdfaaGreatDoor.Mem
open Go Go.RowKit

variable {α : Type} {f : α → Value} {w w' : World} {base : Nat} {e : TypeId} {v : Value} {l : List α}
variable {P : Program} {ops : Array Oper} {rest : List Oper} {o : Oper} {a : Act} {Q : Exit → Act → World → Prop}

/-- v reads as l; it is nil or lies in a block that exists and that is none of X -/
def Ext {α : Type} (f : α → Value) (w : World) (X : Nat → Prop) (v : Value) (l : List α) : Prop :=
  (∃ p, v = .slice p 0 0 ∧ l = []) ∨ ∃ b o cap, v = .slice (some ⟨b, o, none⟩) l.length cap ∧ At f w b o l ∧ b < w.heap.size ∧ X b
theorem Ext.grown {X : Nat → Prop} (h : Ext f w X v l) {r : Option Nat} (hg : w.grownBy w' r) (hr : ∀ b, X b → some b ≠ r) : Ext f w' X v l := by
  rcases h with hn | ⟨b, o, cap, rfl, ha, hl, hX⟩
  · exact .inl hn
  · exact .inr ⟨b, o, cap, rfl, ha.grown hg hl (hr b hX), Nat.lt_of_lt_of_le hl hg.size, hX⟩
theorem Ext.len {X : Nat → Prop} (h : Ext f w X v l) : ∃ p cap, v = .slice p l.length cap := by
  rcases h with ⟨p, rfl, rfl⟩ | ⟨b, o, cap, rfl, _⟩
  · exact ⟨p, 0, rfl⟩
  · exact ⟨_, _, rfl⟩

/-- what is neither the variable nor its row stays readable -/
theorem Ext.step {X : Nat → Prop} {u vv v' : Value} {m : List α} {pb : Nat} (h : Ext f w X u m) (hs : BufStep w w' pb vv v') (hX : ∀ b, X b → b ≠ pb ∧ some b ≠ vv.ownBlock) : Ext f w' X u m := by
  rcases h with hn | ⟨b, o, cap, rfl, ha, hl, hx⟩
  · exact .inl hn
  · exact .inr ⟨b, o, cap, rfl, fun i hi => (World.cell?_of_block (a := ⟨b, o + i, none⟩) (hs.block b hl (hX b hx).1 (hX b hx).2)).trans (ha i hi), Nat.lt_of_lt_of_le hl hs.size, hx⟩
end Go.Proofs.YtllomcmhkocdfaaGreatDoor.Mem
