/- A row of fields that the call itself makes. -/
import Derived.Test.YteglnpanimgelaaGreatDoorEncode
namespace Go.Proofs.YteglnpanimgelaaGreatDoor.Mem
open Go Go.RowKit

abbrev FV := ByteArray × Value
def fcells (l : List FV) : List Value := l.flatMap fun x => [.string x.1, x.2]
theorem fcells_len (l : List FV) : (fcells l).length = l.length * 2 := by
  induction l with
  | nil => rfl
  | cons x l ih => simp only [fcells, List.flatMap_cons, List.length_append, List.length_cons, List.length_nil] at ih ⊢; omega
theorem fcells_snoc (l : List FV) (x : FV) : fcells (l ++ [x]) = fcells l ++ [.string x.1, x.2] := by simp [fcells]
theorem fcells_get (l : List FV) : ∀ (i : Nat) (hi : i < l.length), (fcells l)[i * 2]? = some (.string l[i].1) ∧ (fcells l)[i * 2 + 1]? = some l[i].2 := by
  induction l with
  | nil => intro i hi; simp at hi
  | cons x l ih =>
    intro i hi
    cases i with
    | zero => exact ⟨rfl, rfl⟩
    | succ i =>
      have := ih i (by simpa using hi)
      simp only [fcells, List.flatMap_cons] at this ⊢
      rw [show (i + 1) * 2 = i * 2 + 2 by omega, show i * 2 + 2 + 1 = i * 2 + 1 + 2 by omega]
      simpa using this
/-- v is a row of fields of the call's own -/
def OwnF (w : World) (base : Nat) (v : Value) (l : List FV) : Prop := w.ownsRow base 49 2 v l.length (fcells l)
variable {w w' : World} {base : Nat} {v : Value} {l : List FV}
theorem OwnF.nil (w : World) (base : Nat) : OwnF w base (.slice none 0 0) [] := World.ownsRow_nil w base 49 2
theorem OwnF.slice (h : OwnF w base v l) : ∃ p cap, v = .slice p l.length cap := by
  rcases h.2 with ⟨rfl, h0⟩ | ⟨g, cap, cur, rfl, _⟩
  · exact ⟨none, 0, by rw [h0]⟩
  · exact ⟨_, _, rfl⟩
theorem OwnF.block (h : OwnF w base v l) : ∀ g, v.ownBlock = some g → base ≤ g ∧ g < w.heap.size := by
  intro g hg
  rcases h.2 with ⟨rfl, _⟩ | ⟨g', cap, cur, rfl, hb, hc, _⟩
  · cases hg
  · cases hg; exact ⟨hb, (Array.getElem?_eq_some_iff.1 hc).1⟩
theorem OwnF.grown (h : OwnF w base v l) {row : Option Nat} (hg : w.grownBy w' row) (hr : ∀ g, v.ownBlock = some g → some g ≠ row) : OwnF w' base v l := by
  refine ⟨h.1, ?_⟩
  rcases h.2 with hn | ⟨g, cap, cur, rfl, hb, hc, rest⟩
  · exact .inl hn
  · exact .inr ⟨g, cap, cur, rfl, hb, (hg.block g (Array.getElem?_eq_some_iff.1 hc).1 (hr g rfl)).trans hc, rest⟩
theorem OwnF.below (h : OwnF w base v l) (hb : Below w.heap.size w w') : OwnF w' base v l :=
  h.grown (grown_of_below hb none) (fun g _ e => by cases e)
/-- it reads as a row of fields -/
theorem OwnF.fields (h : OwnF w base v l) (fs : List Sha.F) (hl : l.length = fs.length) (hf : ∀ i (h1 : i < l.length) (h2 : i < fs.length), l[i].1 = fs[i].1 ∧ Rd u8V w l[i].2 fs[i].2) : Fields w v fs := by
  rcases h.2 with ⟨rfl, h0⟩ | ⟨g, cap, cur, rfl, hb, hc, hn, _, hsz, htk⟩
  · exact .inl ⟨none, rfl, List.length_eq_zero_iff.1 (by omega)⟩
  · refine .inr ⟨g, 0, cap, by rw [hl], (Array.getElem?_eq_some_iff.1 hc).1, fun i hi => ?_⟩
    have h1 : i < l.length := by omega
    obtain ⟨e1, e2⟩ := fcells_get l i h1
    obtain ⟨e3, e4⟩ := hf i h1 hi
    have hk : ∀ j u, (fcells l)[j]? = some u → w.cell? ⟨g, j, none⟩ = some u := by
      intro j u hj
      unfold World.cell?
      rw [hc]
      rw [← htk] at hj
      have hj2 : j < l.length * 2 := by
        rcases Nat.lt_or_ge j (l.length * 2) with h | h
        · exact h
        · rw [List.getElem?_eq_none (by simp; omega)] at hj; cases hj
      rw [List.getElem?_take_of_lt hj2] at hj
      simpa using hj
    rw [Nat.zero_add]
    exact ⟨by rw [hk _ _ e1, e3], l[i].2, hk _ _ e2, e4⟩
theorem Rd.take {α : Type} {f : α → Value} {w : World} {p : Option Addr} {n c : Nat} {l : List α} (h : Rd f w (.slice p n c) l) (k : Nat) (hk : k ≤ l.length) : Rd f w (.slice p k c) (l.take k) := by
  rcases h with ⟨q, h0, rfl⟩ | ⟨b, o, cap, h0, hc, ha, hlt⟩
  · cases h0
    obtain rfl : k = 0 := by simpa using hk
    exact .inl ⟨_, rfl, rfl⟩
  · cases h0
    refine .inr ⟨b, o, c, by simp; omega, by simp; omega, fun i hi => ?_, hlt⟩
    have hi2 : i < k := by simp at hi; omega
    rw [List.getElem?_take_of_lt hi2]
    exact ha i (by omega)
end Go.Proofs.YteglnpanimgelaaGreatDoor.Mem
