/- append of a slice of another (named) type; what is appended may be nil. -/
import Derived.Test.YteglnpanimgelaaGreatDoorBuf
namespace Go.Proofs.YteglnpanimgelaaGreatDoor.Mem
open Go Go.RowKit

variable {α : Type} {f : α → Value} {w w' : World} {base : Nat} {e : TypeId} {v : Value} {l : List α}
variable {P : Program} {ops : Array Oper} {rest : List Oper} {o : Oper} {a : Act} {Q : Exit → Act → World → Prop}

/-- v reads as l; it is nil or lies in a block that exists and that is none of X -/
def Ext {α : Type} (f : α → Value) (w : World) (X : Nat → Prop) (v : Value) (l : List α) : Prop :=
  (∃ p, v = .slice p 0 0 ∧ l = []) ∨ ∃ b o cap, v = .slice (some ⟨b, o, none⟩) l.length cap ∧ At f w b o l ∧ b < w.heap.size ∧ X b
theorem Ext.grown {X : Nat → Prop} (h : Ext f w X v l) {r : Option Nat} (hg : w.grownBy w' r) (hr : ∀ b, X b → some b ≠ r) : Ext f w' X v l := by
  rcases h with hn | ⟨b, o, cap, rfl, ha, hl, hX⟩
  · exact .inl hn
  · exact .inr ⟨b, o, cap, rfl, ha.grown hg hl (hr b hX), Nat.lt_of_lt_of_le hl hg.size, hX⟩
theorem Ext.imp {X Y : Nat → Prop} (h : Ext f w X v l) (hXY : ∀ b, b < w.heap.size → X b → Y b) : Ext f w Y v l := by
  rcases h with hn | ⟨b, o, cap, rfl, ha, hl, hX⟩
  · exact .inl hn
  · exact .inr ⟨b, o, cap, rfl, ha, hl, hXY b hl hX⟩
theorem Ext.of_rd (h : Rd f w v l) : Ext f w (fun _ => True) v l := by
  rcases h with hn | ⟨b, o, cap, rfl, _, ha, hl⟩
  · exact .inl hn
  · exact .inr ⟨b, o, cap, rfl, ha, hl, trivial⟩
theorem Ext.len {X : Nat → Prop} (h : Ext f w X v l) : ∃ p cap, v = .slice p l.length cap := by
  rcases h with ⟨p, rfl, rfl⟩ | ⟨b, o, cap, rfl, _⟩
  · exact ⟨p, 0, rfl⟩
  · exact ⟨_, _, rfl⟩

theorem append_types {t T ty e e2 : TypeId} (ht : P.underlying t = some (.slice e)) (hT : P.underlying T = some (.slice e2)) (p : Option Addr) (n c : Nat) (x : Value) (w : World) :
    (Builtin.append_ #[t, T] ty #[.slice p n c, x]).run P w = (Builtin.append_ #[t, t] ty #[.slice p n c, x]).run P w := by
  simp [Builtin.append_, run_underlying ht, run_underlying hT]

theorem run_app_ext {t T ty e2 : TypeId} {bytes : Nat} (E : Elt P t e bytes) (hT : P.underlying T = some (.slice e2)) (h1 : ∀ x, (f x).oneCell' = true) (hown : Own f w base e v l) {X : Nat → Prop} (u : Value) (m : List α) (hu : Ext f w X u m)
    (hn : (l.length + m.length) * bytes ≤ 140737488355328) (hn2 : l.length + m.length ≤ 140737488355328) (hbase : base ≤ w.heap.size) (r : List α) (hr : l ++ m = r) :
    ∃ p cap w', (Builtin.append_ #[t, T] ty #[v, u]).run P w = .ok (.slice p r.length cap) w' ∧ Own f w' base e (.slice p r.length cap) r ∧ w.grownBy w' v.ownBlock ∧
      ((Value.slice p r.length cap).ownBlock = v.ownBlock ∨ (Value.slice p r.length cap).ownBlock = some w.heap.size) := by
  rcases hu with ⟨q, rfl, rfl⟩ | ⟨b, off, cap, rfl, hat, _⟩
  · cases q with
    | some ad =>
      obtain ⟨p, c, rfl⟩ := hown.slice
      rw [append_types E.ht hT]
      exact run_app_ad E h1 hown ad 0 [] (fun j hj => by cases hj) hn hn2 hbase r hr
    | none =>
    obtain ⟨i, z, hi, hz, hs1, hby, hz1⟩ := E.hi
    rw [List.append_nil] at hr
    subst hr
    obtain ⟨p, cap, rfl⟩ := hown.slice
    rw [append_types E.ht hT]
    exact ⟨p, cap, w, run_append_owned_none (P := P) w base t ty e i 1 E.ht hi _ l.length (l.map f) hown, hown, ⟨rfl, rfl, rfl, Nat.le_refl _, fun _ _ _ => rfl⟩, .inl rfl⟩
  · obtain ⟨p, c, rfl⟩ := hown.slice
    rw [append_types E.ht hT]
    exact run_app E h1 hown b off cap m hat hn hn2 hbase r hr

/-- APPEND with a second type: the walk's law -/
theorem append_ext {t T e2 : TypeId} {bytes : Nat} (E : Elt P t e bytes) (hT : P.underlying T = some (.slice e2)) (s x : Operand) (hgd : o.guard = none) (ho : o.op = .call { callee := .builtin .append, args := #[s, x], argTypes := #[t, T] })
    (h1 : ∀ x, (f x).oneCell' = true) (hs : a.eval s = v) (hown : Own f w base e v l) {X : Nat → Prop} (m : List α) (u : Value) (hx : a.eval x = u) (hu : Ext f w X u m)
    (hn : (l.length + m.length) * bytes ≤ 140737488355328) (hn2 : l.length + m.length ≤ 140737488355328) (hbase : base ≤ w.heap.size) (r : List α) (hr : l ++ m = r)
    (h : ∀ p cap w', Own f w' base e (.slice p r.length cap) r → w.grownBy w' v.ownBlock →
      ((Value.slice p r.length cap).ownBlock = v.ownBlock ∨ (Value.slice p r.length cap).ownBlock = some w.heap.size) → wpList P ops Q rest (a.put o.dst (.slice p r.length cap)) w') :
    wpList P ops Q (o :: rest) a w := by
  obtain ⟨p, cap, w', hrun, h2, h3, h4⟩ := run_app_ext (ty := o.type) E hT h1 hown u m hu hn hn2 hbase r hr
  refine wpList_plain hgd fun K hK => ?_
  unfold Oper.wp
  simp [execOp, ho, resolve, invoke, builtin, hs, hx, hrun, Result.andThen]
  exact hK _ _ (h p cap w' h2 h3 h4)

/-- APPEND with a second type: the step of a region that draws its order -/
theorem step_append_ext {K : Act → World → Prop} {Z : Prop} {t T e2 : TypeId} {bytes : Nat} (E : Elt P t e bytes) (hT : P.underlying T = some (.slice e2)) (s x : Operand) (hgd : o.guard = none) (ho : o.op = .call { callee := .builtin .append, args := #[s, x], argTypes := #[t, T] })
    (h1 : ∀ x, (f x).oneCell' = true) (hs : a.eval s = v) (hown : Own f w base e v l) (X : Nat → Prop) (m : List α) (u : Value) (hx : a.eval x = u) (hu : Ext f w X u m)
    (hn : (l.length + m.length) * bytes ≤ 140737488355328) (hn2 : l.length + m.length ≤ 140737488355328) (hbase : base ≤ w.heap.size) (r : List α) (hr : l ++ m = r)
    (hK : ∀ p cap w', Own f w' base e (.slice p r.length cap) r → w.grownBy w' v.ownBlock →
      ((Value.slice p r.length cap).ownBlock = v.ownBlock ∨ (Value.slice p r.length cap).ownBlock = some w.heap.size) → K (a.put o.dst (.slice p r.length cap)) w') :
    if Region.wanted o (yielded ops a.tmps) = true then Oper.wp P o a w K Q else Z := by
  have hw : Region.wanted o (yielded ops a.tmps) = true := by simp [Region.wanted, hgd]
  rw [if_pos hw]
  obtain ⟨p, cap, w', hrun, h2, h3, h4⟩ := run_app_ext (ty := o.type) E hT h1 hown u m hu hn hn2 hbase r hr
  unfold Oper.wp
  simp only [execOp, ho, resolve, invoke, builtin, Sem.run_bind, Sem.run_pure, Result.andThen_ok, List.map_toArray, List.map_cons, List.map_nil, hs, hx, hrun]
  exact hK p cap w' h2 h3 h4
theorem step_append_ext_drew {K : Act → World → Prop} {Z : Prop} {t T e2 : TypeId} {bytes : Nat} (E : Elt P t e bytes) (hT : P.underlying T = some (.slice e2)) (s x : Operand) (hgd : o.guard = none) (ho : o.op = .call { callee := .builtin .append, args := #[s, x], argTypes := #[t, T] })
    (h1 : ∀ x, (f x).oneCell' = true) (hs : a.eval s = v) (hown : Own f w base e v l) (X : Nat → Prop) (m : List α) (u : Value) (hx : a.eval x = u) (hu : Ext f w X u m)
    (hn : (l.length + m.length) * bytes ≤ 140737488355328) (hn2 : l.length + m.length ≤ 140737488355328) (hbase : base ≤ w.heap.size) (r : List α) (hr : l ++ m = r)
    (hK : ∀ p cap w', Own f w' base e (.slice p r.length cap) r → w.grownBy w' v.ownBlock →
      ((Value.slice p r.length cap).ownBlock = v.ownBlock ∨ (Value.slice p r.length cap).ownBlock = some w.heap.size) → K (a.put o.dst (.slice p r.length cap)) w') :
    if Region.wanted o (yielded ops a.tmps) = true then Oper.wp P o a w.drew K Q else Z :=
  step_append_ext (w := w.drew) E hT s x hgd ho h1 hs hown X m u hx hu hn hn2 hbase r hr fun p cap w' a b c => hK p cap w' a ⟨b.os, b.tape, b.output, b.size, b.block⟩ c

/-- one append without a literal, then the variable is set -/
theorem BufStep.app1 {pb : Nat} {v' : Value} {w2 : World} (hg : w.grownBy w2 v.ownBlock) (ho : v'.ownBlock = v.ownBlock ∨ v'.ownBlock = some w.heap.size) : BufStep w (w2.setCell ⟨pb, 0, none⟩ v') pb v v' := by
  refine ⟨hg.os, hg.tape, hg.output, ?_, fun k hk hp hv => ?_, ?_⟩
  · have := hg.size; simp; omega
  · exact (Below.heap_setCell _ _ _ _ (by exact hp)).trans (hg.block k hk hv)
  · rcases ho with e | e
    · exact .inl e
    · exact .inr fun g hg' => by rw [e] at hg'; cases hg'; omega
/-- what is neither the variable nor its row stays readable -/
theorem Ext.step {X : Nat → Prop} {u vv v' : Value} {m : List α} {pb : Nat} (h : Ext f w X u m) (hs : BufStep w w' pb vv v') (hX : ∀ b, X b → b ≠ pb ∧ some b ≠ vv.ownBlock) : Ext f w' X u m := by
  rcases h with hn | ⟨b, o, cap, rfl, ha, hl, hx⟩
  · exact .inl hn
  · exact .inr ⟨b, o, cap, rfl, fun i hi => (World.cell?_of_block (a := ⟨b, o + i, none⟩) (hs.block b hl (hX b hx).1 (hX b hx).2)).trans (ha i hi), Nat.lt_of_lt_of_le hl hs.size, hx⟩
end Go.Proofs.YteglnpanimgelaaGreatDoor.Mem
