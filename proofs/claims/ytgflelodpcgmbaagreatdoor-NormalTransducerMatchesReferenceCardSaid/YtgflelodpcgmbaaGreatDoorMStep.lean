/- append as one step of a region that draws its order; the exact frame of an append to an owned slice. -/
import Derived.Test.YtgflelodpcgmbaaGreatDoorMOwn
import Derived.Maps.AppendAt
import Derived.Deep.RegionLaw
namespace Go.Proofs.YtgflelodpcgmbaaGreatDoor.Mem
open Go Go.RowKit

variable {α : Type} {f : α → Value} {w w' : World} {base : Nat} {e : TypeId} {v : Value} {l : List α}
variable {P : Program} {ops : Array Oper} {rest : List Oper} {o : Oper} {a : Act} {Q : Exit → Act → World → Prop}

theorem run_app_ad {t ty : TypeId} {bytes : Nat} (E : Elt P t e bytes) (h1 : ∀ x, (f x).oneCell' = true) (hown : Own f w base e v l) (ad : Addr) (c : Nat) (m : List α) (hat : ∀ j, j < m.length → w.cell? (ad.add j) = m[j]?.map f)
    (hn : (l.length + m.length) * bytes ≤ 140737488355328) (hn2 : l.length + m.length ≤ 140737488355328) (hbase : base ≤ w.heap.size) (r : List α) (hr : l ++ m = r) :
    ∃ p cap w', (Builtin.append_ #[t, t] ty #[v, .slice (some ad) m.length c]).run P w = .ok (.slice p r.length cap) w' ∧ Own f w' base e (.slice p r.length cap) r ∧ w.grownBy w' v.ownBlock ∧
      ((Value.slice p r.length cap).ownBlock = v.ownBlock ∨ (Value.slice p r.length cap).ownBlock = some w.heap.size) := by
  obtain ⟨i, z, hi, hz, hs1, hby, hz1⟩ := E.hi
  obtain ⟨v', w', hrun, h2, h3, _, h5⟩ := run_append_own_at (P := P) w base t ty e i z 1 bytes E.ht hi hz hs1 hby hz1 (by decide) v l.length (l.map f) hown ad m.length c (m.map f) (by simp) (by
    intro j u hj
    rw [List.getElem?_map] at hj
    by_cases hjl : j < m.length
    · rw [hat j hjl, hj]
    · rw [List.getElem?_eq_none (by omega)] at hj; cases hj) (by
    intro u hu
    obtain ⟨y, _, rfl⟩ := List.mem_map.1 hu
    exact h1 y) (by unfold maxLen; omega) hn hbase
  have ho' : Own f w' base e v' r := by unfold Own; rw [← hr, List.length_append, List.map_append]; exact h2
  obtain ⟨p, cap, rfl⟩ := ho'.slice
  exact ⟨p, cap, w', hrun, ho', h3, h5⟩

theorem run_app {t ty : TypeId} {bytes : Nat} (E : Elt P t e bytes) (h1 : ∀ x, (f x).oneCell' = true) (hown : Own f w base e v l) (b off c : Nat) (m : List α) (hat : At f w b off m)
    (hn : (l.length + m.length) * bytes ≤ 140737488355328) (hn2 : l.length + m.length ≤ 140737488355328) (hbase : base ≤ w.heap.size) (r : List α) (hr : l ++ m = r) :
    ∃ p cap w', (Builtin.append_ #[t, t] ty #[v, .slice (some ⟨b, off, none⟩) m.length c]).run P w = .ok (.slice p r.length cap) w' ∧ Own f w' base e (.slice p r.length cap) r ∧ w.grownBy w' v.ownBlock ∧
      ((Value.slice p r.length cap).ownBlock = v.ownBlock ∨ (Value.slice p r.length cap).ownBlock = some w.heap.size) :=
  run_app_ad E h1 hown ⟨b, off, none⟩ c m (fun j hj => by
    have h2 : ((⟨b, off, none⟩ : Addr).add j) = ⟨b, off + j, none⟩ := by unfold Addr.add; split <;> simp_all
    rw [h2, hat j hj]) hn hn2 hbase r hr

theorem step_append_one {K : Act → World → Prop} {X : Prop} {t : TypeId} {bytes : Nat} (E : Elt P t e bytes) (s x : Operand) (T : TypeId) (hgd : o.guard = none) (ho : o.op = .call { callee := .builtin .append, args := #[s, x], argTypes := #[t, T] }) (hT : T = t)
    (h1 : ∀ x, (f x).oneCell' = true) (hs : a.eval s = v) (hown : Own f w base e v l) (y : α) (u : Value) (hu : u = f y) (e1 : TypeId) (hx : a.eval x = .slice (some ⟨w.heap.size, 0, none⟩) 1 1)
    (hn : (l.length + 1) * bytes ≤ 140737488355328) (hn2 : l.length + 1 ≤ 140737488355328) (hbase : base ≤ w.heap.size) (r : List α) (hr : l ++ [y] = r)
    (hK : ∀ p cap w', Own f w' base e (.slice p r.length cap) r → (w.alloc (.cells #[u] e1)).grownBy w' v.ownBlock →
      ((Value.slice p r.length cap).ownBlock = v.ownBlock ∨ (Value.slice p r.length cap).ownBlock = some (w.heap.size + 1)) → K (a.put o.dst (.slice p r.length cap)) w') :
    if Region.wanted o (yielded ops a.tmps) = true then Oper.wp P o a (w.alloc (.cells #[u] e1)) K Q else X := by
  subst hT hu
  have hr' : Row f (w.alloc (.cells #[f y] e1)) w.heap.size e1 [y] := Row.new _ _ rfl
  have hw : Region.wanted o (yielded ops a.tmps) = true := by simp [Region.wanted, hgd]
  rw [if_pos hw]
  obtain ⟨p, cap, w', hrun, h2, h3, h4⟩ := run_app (ty := o.type) E h1 (hown.alloc (.cells #[f y] e1)) w.heap.size 0 1 [y] hr'.at hn hn2 (by simp; omega) r hr
  rw [World.size_alloc] at h4
  unfold Oper.wp
  have hx' : a.eval x = .slice (some ⟨w.heap.size, 0, none⟩) [y].length 1 := hx
  simp only [execOp, ho, resolve, invoke, builtin, Sem.run_bind, Sem.run_pure, Result.andThen_ok, List.map_toArray, List.map_cons, List.map_nil, hs, hx', hrun]
  exact hK p cap w' h2 h3 h4

theorem step_append_drew {K : Act → World → Prop} {X : Prop} {t : TypeId} {bytes : Nat} (E : Elt P t e bytes) (s x : Operand) (T : TypeId) (hgd : o.guard = none) (ho : o.op = .call { callee := .builtin .append, args := #[s, x], argTypes := #[t, T] }) (hT : T = t)
    (h1 : ∀ x, (f x).oneCell' = true) (hs : a.eval s = v) (hown : Own f w base e v l) (y : α) (u : Value) (hu : u = f y) (e1 : TypeId) (hx : a.eval x = .slice (some ⟨w.heap.size, 0, none⟩) 1 1)
    (hn : (l.length + 1) * bytes ≤ 140737488355328) (hn2 : l.length + 1 ≤ 140737488355328) (hbase : base ≤ w.heap.size) (r : List α) (hr : l ++ [y] = r)
    (hK : ∀ p cap w', Own f w' base e (.slice p r.length cap) r → (w.alloc (.cells #[u] e1)).grownBy w' v.ownBlock →
      ((Value.slice p r.length cap).ownBlock = v.ownBlock ∨ (Value.slice p r.length cap).ownBlock = some (w.heap.size + 1)) → K (a.put o.dst (.slice p r.length cap)) w') :
    if Region.wanted o (yielded ops a.tmps) = true then Oper.wp P o a (w.alloc (.cells #[u] e1)).drew K Q else X :=
  step_append_one (w := w.drew) E s x T hgd ho hT h1 hs hown y u hu e1 hx hn hn2 hbase r hr fun p cap w' a b c => hK p cap w' a ⟨b.os, b.tape, b.output, b.size, b.block⟩ c
end Go.Proofs.YtgflelodpcgmbaaGreatDoor.Mem
