/- A queue of numbers of the call's own: taken from at its head, appended to. -/
import Derived.ArgAppend
import Derived.Test.YtllomcmhkocdfaaGreatDoorMCells
import Derived.Test.YtllomcmhkocdfaaGreatDoorMOwn
namespace Go.Proofs.YtllomcmhkocdfaaGreatDoor
open Go Go.RowKit Mem
set_option maxRecDepth 100000

def natV (n : Nat) : Value := .int .i64 (n : Int)
theorem eltInt : Elt Tryz.prog 39 3 8 := Elt.mk' Tryz.underlying39 (z := .int .i64 0) (by kernel_rfl) rfl

/-- v is a slice that reads as l; it has no room, or it lies in a block from base on that the call made -/
def Que (w : World) (base : Nat) (v : Value) (l : List Nat) : Prop :=
  (∃ p c, v = .slice p l.length c ∧ ((l = [] ∧ c = 0) ∨ ∃ g o cur, p = some ⟨g, o, none⟩ ∧ w.heap[g]? = some (.cells cur 3 (0, 0)) ∧ l.length ≤ c ∧ o + c ≤ cur.size ∧ ∀ j y, l[j]? = some y → cur[o + j]? = some (natV y))) ∧
    (∀ g, v.ownBlock = some g → base ≤ g ∧ g < w.heap.size) ∧ base ≤ w.heap.size
theorem Que.keep {w w' : World} {base : Nat} {v : Value} {l : List Nat} (h : Que w base v l) (hs : w.heap.size ≤ w'.heap.size) (hg : ∀ g, v.ownBlock = some g → w'.heap[g]? = w.heap[g]?) : Que w' base v l := by
  refine ⟨?_, fun g he => ⟨(h.2.1 g he).1, Nat.lt_of_lt_of_le (h.2.1 g he).2 hs⟩, Nat.le_trans h.2.2 hs⟩
  obtain ⟨p, c, rfl, h1 | ⟨g, o, cur, rfl, h2, h3⟩⟩ := h.1
  · exact ⟨p, c, rfl, .inl h1⟩
  · exact ⟨_, c, rfl, .inr ⟨g, o, cur, rfl, (hg g rfl).trans h2, h3⟩⟩
theorem Que.below {w w' : World} {base : Nat} {v : Value} {l : List Nat} (h : Que w base v l) (hb : Below w.heap.size w w') : Que w' base v l := h.keep hb.size fun g hg => hb.block g (h.2.1 g hg).2
theorem Que.set {w : World} {base : Nat} {v : Value} {l : List Nat} (h : Que w base v l) {b : Nat} (hb : b < base) (i : Nat) (x : Value) : Que (w.setCell ⟨b, i, none⟩ x) base v l :=
  h.keep (by simp) fun g hg => Below.heap_setCell _ _ _ _ (by have := (h.2.1 g hg).1; show g ≠ b; omega)
/-- the head -/
theorem Que.head {w : World} {base : Nat} {v : Value} {x : Nat} {l : List Nat} (h : Que w base v (x :: l)) : ∃ g o c, v = .slice (some ⟨g, o, none⟩) (l.length + 1) c ∧ w.cell? ⟨g, o, none⟩ = some (.int .i64 (x : Int)) ∧ 1 ≤ c := by
  obtain ⟨p, c, rfl, ⟨h, _⟩ | ⟨g, o, cur, rfl, h2, h3, h4, h5⟩⟩ := h.1
  · cases h
  · refine ⟨g, o, c, rfl, ?_, by simp at h3; omega⟩
    unfold World.cell?
    rw [h2]
    simpa [natV] using h5 0 x rfl
theorem sliced_block {a : Addr} {l h m s g : Nat} (hg : (sliced (some a) l h m s).ownBlock = some g) : g = a.block := by
  unfold sliced at hg
  split at hg
  · simpa [Value.ownBlock] using hg.symm
  · simp only [Option.map_some, Value.ownBlock, Option.some.injEq] at hg
    rw [← hg]; unfold Addr.add; split <;> rfl
/-- what is left behind the head -/
theorem Que.tail {w : World} {base : Nat} {g o c n x : Nat} {l : List Nat} (h : Que w base (.slice (some ⟨g, o, none⟩) n c) (x :: l)) : Que w base (sliced (some ⟨g, o, none⟩) 1 n c 1) l := by
  refine ⟨?_, fun g' hg' => by rw [sliced_block hg']; exact h.2.1 g rfl, h.2.2⟩
  obtain ⟨p, c', he, ⟨h, _⟩ | ⟨g', o', cur, rfl, h2, h3, h4, h5⟩⟩ := h.1
  · cases h
  · injection he with e1 e2 e3
    injection e1 with e1
    injection e1 with e1 e4
    subst e1 e2 e3 e4
    simp only [List.length_cons] at *
    unfold sliced
    by_cases hc : c = 1
    · subst hc
      have hl : l = [] := List.eq_nil_of_length_eq_zero (by omega)
      subst hl
      rw [if_pos rfl]
      exact ⟨_, 0, rfl, .inl ⟨rfl, rfl⟩⟩
    · rw [if_neg hc]
      refine ⟨some ⟨g, o + 1, none⟩, c - 1, by simp [Addr.add], .inr ⟨g, o + 1, cur, rfl, h2, by omega, by omega, fun j y hj => ?_⟩⟩
      have := h5 (j + 1) y hj
      rwa [show o + (j + 1) = o + 1 + j by omega] at this

variable {P : Program} {ops : Array Oper} {rest : List Oper} {o : Oper} {a : Act} {Q : Exit → Act → World → Prop} {w : World}
/-- a slice from an index on -/
theorem slice_low {t : TypeId} {e : TypeId} (x : Operand) (n : Int) (hgd : o.guard = none) (ho : o.op = .slice t x (some (.const (.int .i64 n))) none none) (ht : P.underlying t = some (.slice e)) (hsz : (P.info? e).map (·.size) = some 1) (p : Option Addr) (len c : Nat)
    (hx : a.eval x = .slice p len c) (h0 : 0 ≤ n) (hn : n ≤ len) (v' : Value) (hv : sliced p n.toNat len c 1 = v') (hk : wpList P ops Q rest (a.put o.dst v') w) : wpList P ops Q (o :: rest) a w := by
  subst hv
  refine wpList_plain hgd fun K hK => ?_
  have he : P.elem t = e := by unfold Program.elem; rw [ht]
  have hs : (sizeOf e).run P w = .ok 1 w := by
    cases hi : P.info? e with
    | none => rw [hi] at hsz; cases hsz
    | some i => rw [hi] at hsz; simp at hsz; simp [sizeOf, typeInfo, hi, hsz]
  have ht' : P.underlying t = some (.slice (P.elem t)) := by rw [he]; exact ht
  have hr := run_slice_l (P := P) w t p len c ht' .i64 n h0 hn
  rw [he, hs] at hr
  have hr2 := run_sliceAt_slice (P := P) w t (.slice p len c) (some (.int .i64 n)) none none ht'
  rw [hr] at hr2
  have hc : a.eval (.const (.int .i64 n)) = .int .i64 n := rfl
  unfold Oper.wp
  simp [execOp, ho, hx, hc, hr2, Result.andThen]
  exact hK _ _ hk

/-- append of one number -/
theorem append_que {t : TypeId} (E : Elt P t 3 8) (s x : Operand) (hgd : o.guard = none) (ho : o.op = .call { callee := .builtin .append, args := #[s, x], argTypes := #[t, t] }) {base : Nat} {v : Value} {l : List Nat} (hs : a.eval s = v) (hq : Que w base v l)
    (y : Nat) (hx : a.eval x = .slice (some ⟨w.heap.size, 0, none⟩) 1 1) (hl : l.length ≤ 4096)
    (h : ∀ v' w', Que w' base v' (l ++ [y]) → (w.alloc (.cells #[.int .i64 (y : Int)] 3)).grownBy w' v.ownBlock → (∀ g, v'.ownBlock = some g → v.ownBlock = some g ∨ w.heap.size ≤ g) → wpList P ops Q rest (a.put o.dst v') w') :
    wpList P ops Q (o :: rest) a (w.alloc (.cells #[.int .i64 (y : Int)] 3)) := by
  have hbase := hq.2.2
  obtain ⟨i, z, hi, hz, hs1, hby, hz1⟩ := E.hi
  have hnew : ∀ (j : Nat) (u : Value), ([natV y] : List Value)[j]? = some u → (w.alloc (.cells #[.int .i64 (y : Int)] 3)).cell? ((⟨w.heap.size, 0, none⟩ : Addr).add j) = some u := by
    intro j u hj
    cases j with
    | zero => 
      injection hj with hj
      subst hj
      show World.cell? _ ⟨w.heap.size, 0 + 0, none⟩ = _
      unfold World.cell?
      rw [World.alloc_heap_new]
      rfl
    | succ j => simp at hj
  have h1c : ∀ u ∈ ([natV y] : List Value), u.oneCell' = true := by intro u hu; rw [List.mem_singleton] at hu; subst hu; rfl
  have own : ∀ v' w', w'.ownsRow (w.alloc (.cells #[.int .i64 (y : Int)] 3)).heap.size 3 1 v' (l.length + 1) (l.map natV ++ [natV y]) → Que w' base v' (l ++ [y]) ∧ ∀ g, v'.ownBlock = some g → w.heap.size ≤ g := by
    intro v' w' ho'
    rcases ho'.2 with ⟨_, h0⟩ | ⟨g, cap, cur, rfl, hg1, hg2, hg3, hg4, hg5, hg6⟩
    · omega
    · have hgw : w.heap.size ≤ g := by simp at hg1; omega
      have hgl : g < w'.heap.size := (Array.getElem?_eq_some_iff.1 hg2).1
      refine ⟨⟨⟨_, cap, by rw [List.length_append]; rfl, .inr ⟨g, 0, cur, rfl, hg2, by rw [List.length_append]; exact hg3, by omega, fun j u hj => ?_⟩⟩, fun g' hg' => ?_, by omega⟩, fun g' hg' => ?_⟩
      · have hjl : j < (l ++ [y]).length := (List.getElem?_eq_some_iff.1 hj).1
        rw [List.length_append] at hjl
        have e : (cur.toList.take ((l.length + 1) * 1))[j]? = some (natV u) := by
          rw [hg6, ← List.map_singleton (f := natV), ← List.map_append, List.getElem?_map, hj]; rfl
        rw [List.getElem?_take_of_lt (by simp at hjl; omega)] at e
        simpa using e
      · simp only [Value.ownBlock, Option.some.injEq] at hg'
        subst hg'
        exact ⟨by omega, hgl⟩
      · simp only [Value.ownBlock, Option.some.injEq] at hg'
        subst hg'
        exact hgw
  have hq2 := hq.2.1
  obtain ⟨p, c, rfl, ⟨rfl, rfl⟩ | ⟨g, off, cur, rfl, q2, q3, q4, q5⟩⟩ := hq.1
  · refine wpList_append_grows (w.alloc (.cells #[.int .i64 (y : Int)] 3)) hgd s x t ho 3 i z 1 8 E.ht hi hz hs1 hby hz1 (by decide) p 0 0 [] hs (fun _ => ⟨rfl, rfl⟩) rfl (fun _ _ j u hj => by simp at hj) ⟨w.heap.size, 0, none⟩ 1 1 [natV y] hx rfl hnew h1c (by omega) (by unfold maxLen; omega) (by omega) ?_
    intro v' w' ho' hg'
    obtain ⟨k1, k2⟩ := own v' w' (by simpa using ho')
    exact h v' w' k1 ⟨hg'.os, hg'.tape, hg'.output, hg'.size, fun k hk _ => hg'.block k hk (by simp)⟩ fun g hg => .inr (k2 g hg)
  · have hgl : g < w.heap.size := (Array.getElem?_eq_some_iff.1 q2).1
    have q2' : (w.alloc (.cells #[.int .i64 (y : Int)] 3)).heap[g]? = some (.cells cur 3 (0, 0)) := (Below.heap_alloc _ _ _ hgl).trans q2
    refine wpList_append_arg (w.alloc (.cells #[.int .i64 (y : Int)] 3)) hgd s x t ho 3 i z 1 8 E.ht hi hz hs1 hby hz1 (by decide) g off l.length c (l.map natV) hs (by simp) ?_ ⟨w.heap.size, 0, none⟩ 1 1 [natV y] hx rfl hnew h1c ?_ (by unfold maxLen; omega) (by omega) ?_ ?_
    · intro j u hj
      rw [List.getElem?_map] at hj
      cases hlj : l[j]? with
      | none => rw [hlj] at hj; cases hj
      | some z =>
        rw [hlj] at hj
        injection hj with hj
        subst hj
        unfold World.cell?
        rw [q2']
        simpa using q5 j z hlj
    · intro hr j hj
      have hj0 : j = 0 := by simpa using hj
      subst hj0
      have hsz : off + l.length < cur.size := by omega
      refine ⟨?_, ?_⟩
      · unfold World.cell?; rw [q2']; simp [hsz]
      · unfold World.frozen?; rw [q2']; simp
    · intro hr
      refine h _ _ ?_ ?_ (fun g' hg' => .inl hg')
      · have hn : ((w.alloc (.cells #[.int .i64 (y : Int)] 3)).setCells g (off + l.length * 1) [natV y]).heap[g]? = some (.cells (cur.setIfInBounds (off + l.length) (natV y)) 3 (0, 0)) := by
          show ((w.alloc (.cells #[.int .i64 (y : Int)] 3)).setCell ⟨g, off + l.length * 1, none⟩ (natV y)).heap[g]? = _
          simp only [World.setCell, Array.getElem?_modify, q2', Nat.mul_one]
          simp
        refine ⟨⟨_, c, by rw [List.length_append]; rfl, .inr ⟨g, off, _, rfl, hn, by rw [List.length_append]; exact hr, by simpa using q4, fun j u hj => ?_⟩⟩, fun g' hg' => ⟨(hq2 g' hg').1, Nat.lt_of_lt_of_le (hq2 g' hg').2 (by show w.heap.size ≤ ((w.alloc _).setCell _ _).heap.size; simp)⟩, by show base ≤ ((w.alloc _).setCell _ _).heap.size; simp; omega⟩
        have hjl : j < (l ++ [y]).length := (List.getElem?_eq_some_iff.1 hj).1
        rw [List.length_append] at hjl
        simp at hjl
        rw [Array.getElem?_setIfInBounds]
        by_cases he : off + l.length = off + j
        · rw [if_pos he, if_pos (by omega)]
          have : j = l.length := by omega
          subst this
          rw [List.getElem?_append_right (Nat.le_refl _)] at hj
          simp at hj
          rw [hj]
        · rw [if_neg he]
          rw [List.getElem?_append_left (by omega)] at hj
          exact q5 j u hj
      · show (w.alloc (.cells #[.int .i64 (y : Int)] 3)).grownBy ((w.alloc (.cells #[.int .i64 (y : Int)] 3)).setCell ⟨g, off + l.length * 1, none⟩ (natV y)) (some g)
        exact grown_set (grown_of_below (Below.refl _ _) _) _ _
    · intro hr v' w' ho' hg'
      obtain ⟨k1, k2⟩ := own v' w' ho'
      exact h v' w' k1 ⟨hg'.os, hg'.tape, hg'.output, hg'.size, fun k hk _ => hg'.block k hk (by simp)⟩ fun g hg => .inr (k2 g hg)
end Go.Proofs.YtllomcmhkocdfaaGreatDoor
