/- Statements in a row: literals, appends, writes to one of them. -/
import Derived.Test.YtllomcmhkocdfaaGreatDoorMCells
import Derived.Test.YtllomcmhkocdfaaGreatDoorMUpd
import Derived.Test.YtllomcmhkocdfaaGreatDoorMIx
import Derived.Test.YtllomcmhkocdfaaGreatDoorMStep
import Derived.Great.Walk
import Derived.Test.YtllomcmhkocdfaaGreatDoorMDial
import Derived.Test.YtllomcmhkocdfaaGreatDoorMHeldD
import Derived.Test.YtllomcmhkocdfaaGreatDoorMHeldTail
import Derived.Deep.DeepCutAuto
namespace Go.Proofs.YtllomcmhkocdfaaGreatDoor
open Go Go.RowKit Mem
set_option maxRecDepth 100000

/-- the cells of statements -/
def stCells (L : List St) : List Value := L.flatMap fun s => s.cs.map oV
theorem stCells_length (L : List St) : (stCells L).length = L.length * 33 := by
  induction L with
  | nil => rfl
  | cons a l ih => simp only [stCells, List.flatMap_cons, List.length_append, List.length_map, St.cs_length, List.length_cons] at ih ⊢; omega
theorem stCells_append (a b : List St) : stCells (a ++ b) = stCells a ++ stCells b := by simp [stCells]
theorem stCells_get (L : List St) : ∀ (j : Nat) (s : St), L[j]? = some s → ∀ i, i < 33 → (stCells L)[j * 33 + i]? = (s.cs[i]?).map oV := by
  induction L with
  | nil => intro j s h; simp at h
  | cons a l ih =>
    intro j s h i hi
    have hc : stCells (a :: l) = (a.cs.map oV) ++ stCells l := by simp [stCells]
    rw [hc]
    cases j with
    | zero =>
      simp only [List.getElem?_cons_zero, Option.some.injEq] at h
      subst h
      rw [List.getElem?_append_left (by rw [List.length_map, St.cs_length]; omega), Nat.zero_mul, Nat.zero_add, List.getElem?_map]
    | succ j =>
      rw [List.getElem?_append_right (by rw [List.length_map, St.cs_length]; omega), List.length_map, St.cs_length, show (j + 1) * 33 + i - 33 = j * 33 + i by omega]
      exact ih j s (by simpa using h) i hi
/-- the statements L lie in the block g from its beginning on -/
def Sts (w : World) (g : Nat) (L : List St) : Prop := ∃ cur, w.heap[g]? = some (.cells cur 45 (0, 0)) ∧ L.length * 33 ≤ cur.size ∧ ∀ j s, L[j]? = some s → ∀ i, i < 33 → cur[j * 33 + i]? = (s.cs[i]?).map oV
theorem Sts.lt {w : World} {g : Nat} {L : List St} (h : Sts w g L) : g < w.heap.size := by obtain ⟨cur, hg, _⟩ := h; exact (Array.getElem?_eq_some_iff.1 hg).1
theorem Sts.block {w w' : World} {g : Nat} {L : List St} (h : Sts w g L) (hb : w'.heap[g]? = w.heap[g]?) : Sts w' g L := by obtain ⟨cur, hg, h2⟩ := h; exact ⟨cur, hb.trans hg, h2⟩
theorem Sts.below {w w' : World} {B g : Nat} {L : List St} (h : Sts w g L) (hb : Below B w w') (hB : g < B) : Sts w' g L := h.block (hb.block g hB)
theorem Sts.at {w : World} {g : Nat} {L : List St} (h : Sts w g L) (j : Nat) (s : St) (hj : L[j]? = some s) : At oV w g (j * 33) s.cs := by
  obtain ⟨cur, hg, _, hc⟩ := h
  intro i hi
  rw [St.cs_length] at hi
  unfold World.cell?
  rw [hg]
  exact hc j s hj i hi
theorem Sts.new (w : World) (L : List St) : Sts (w.alloc (.cells (stCells L).toArray 45)) w.heap.size L :=
  ⟨_, World.alloc_heap_new _ _, by rw [List.size_toArray, stCells_length]; exact Nat.le_refl _, fun j s hj i hi => by rw [List.getElem?_toArray]; exact stCells_get L j s hj i hi⟩
theorem Sts.of_own {w : World} {base g c n : Nat} {L : List St} (h : w.ownsRow base 45 33 (.slice (some ⟨g, 0, none⟩) n c) L.length (stCells L)) : Sts w g L := by
  rcases h.2 with ⟨h0, _⟩ | ⟨g', cap, cur, he, _, hg, hc, _, hs, ht⟩
  · cases h0
  · cases he
    refine ⟨cur, hg, by rw [hs]; exact Nat.mul_le_mul_right _ hc, fun j s hj i hi => ?_⟩
    have hjl : j < L.length := (List.getElem?_eq_some_iff.1 hj).1
    rw [← stCells_get L j s hj i hi, ← ht, List.getElem?_take_of_lt (by omega)]
    simp
/-- a cell of a statement is written -/
theorem Sts.set {w : World} {g : Nat} {L : List St} (h : Sts w g L) (j : Nat) (s s' : St) (k : Nat) (u : OC) (hj : L[j]? = some s) (hk : k < 33) (hs : s'.cs = s.cs.set k u) : Sts (w.setCell ⟨g, j * 33 + k, none⟩ u.1) g (L.set j s') := by
  obtain ⟨cur, hg, hl, hc⟩ := h
  have hjl : j < L.length := (List.getElem?_eq_some_iff.1 hj).1
  have hgl : g < w.heap.size := (Array.getElem?_eq_some_iff.1 hg).1
  refine ⟨cur.setIfInBounds (j * 33 + k) u.1, ?_, by rw [Array.size_setIfInBounds, List.length_set]; exact hl, ?_⟩
  · simp only [World.setCell]
    rw [Array.getElem?_modify, if_pos rfl, hg]
    rfl
  · intro j' s1 hj' i hi
    rw [Array.getElem?_setIfInBounds]
    by_cases he : j = j'
    · subst he
      rw [List.getElem?_set_self hjl] at hj'
      cases hj'
      rw [hs]
      by_cases hki : k = i
      · subst hki
        rw [if_pos rfl, if_pos (by omega), List.getElem?_set_self (by rw [St.cs_length]; exact hk)]
        rfl
      · rw [if_neg (by omega), List.getElem?_set_ne hki]
        exact hc j s hj i hi
    · rw [List.getElem?_set_ne he] at hj'
      rw [if_neg (by omega)]
      exact hc j' s1 hj' i hi
theorem Sts.frozen {w : World} {g : Nat} {L : List St} (h : Sts w g L) (i : Nat) : w.frozen? ⟨g, i, none⟩ = false := by
  obtain ⟨cur, hg, _⟩ := h
  unfold World.frozen?
  rw [hg]
  simp

section
variable {P : Program} {ops : Array Oper} {rest : List Oper} {o : Oper} {a : Act} {Q : Exit → Act → World → Prop} {w : World} {base : Nat} {e : TypeId} {v : Value}
/-- append of one element of any size -/
theorem append_big {t : TypeId} {i : TypeInfo} {z : Value} {size bytes : Nat} {K : Act → World → Prop} (s x : Operand) (ho : o.op = .call { callee := .builtin .append, args := #[s, x], argTypes := #[t, t] })
    (ht : P.underlying t = some (.slice e)) (hi : P.info? e = some i) (hz : i.zero = some z) (hsize : i.size = size) (hby : i.bytes = bytes) (hzs : z.cells.size = size) (hpos : 0 < size)
    (n : Nat) (xs : List Value) (hs : a.eval s = v) (hown : w.ownsRow base e size v n xs) (g0 : Nat) (ys : List Value) (hyl : ys.length = size) (hx : a.eval x = .slice (some ⟨g0, 0, none⟩) 1 1) (hc : ∀ j u, ys[j]? = some u → w.cell? ⟨g0, j, none⟩ = some u)
    (h1 : ∀ u ∈ ys, u.oneCell' = true) (hn : n + 1 ≤ maxLen) (hbytes : (n + 1) * bytes ≤ 140737488355328) (hbase : base ≤ w.heap.size)
    (h : ∀ v' w', w'.ownsRow base e size v' (n + 1) (xs ++ ys) → w.grownBy w' v.ownBlock → (∀ g, v'.ownBlock = some g → v.ownBlock = some g ∨ w.heap.size ≤ g) → K (a.put o.dst v') w') : o.wp P a w K Q := by
  obtain ⟨v', w', hrun, h3, h4, _, h5⟩ := run_append_own_at (P := P) w base t o.type e i z size bytes ht hi hz hsize hby hzs hpos v n xs hown ⟨g0, 0, none⟩ 1 1 ys (by rw [hyl, Nat.one_mul]) (by
    intro j u hj
    have h2 : ((⟨g0, 0, none⟩ : Addr).add j) = ⟨g0, j, none⟩ := by unfold Addr.add; split <;> simp_all
    rw [h2]
    exact hc j u hj) h1 hn hbytes hbase
  unfold Oper.wp execOp
  simp only [ho, resolve, invoke, builtin, Sem.run_bind, Sem.run_pure, Result.andThen_ok, List.map_toArray, List.map_cons, List.map_nil, hs, hx, hrun]
  refine h v' w' h3 h4 fun g hg => ?_
  rcases h5 with h5 | h5
  · exact .inl (h5 ▸ hg)
  · rw [hg] at h5; injection h5 with h5; exact .inr (by omega)
/-- the slots ts hold the values vs -/
inductive EvL (a : Act) : List Nat → List Value → Prop
  | nil : EvL a [] []
  | cons {t : Nat} {v : Value} {ts : List Nat} {vs : List Value} : a.eval (.tmp t) = v → EvL a ts vs → EvL a (t :: ts) (v :: vs)
theorem evL_parts (a : Act) : ∀ (ts : List Nat) (vs : List Value) (k : Nat), EvL a ts vs → ((((ts.zipIdx k).map fun x => (x.2, Operand.tmp x.1)).toArray).map fun (i, x) => (i, a.eval x)).toList = (vs.zipIdx k).map fun x => (x.2, x.1)
  | _, _, _, .nil => by simp
  | _, _, k, .cons (ts := ts) (vs := vs) h t => by
    have ih := evL_parts a ts vs (k + 1) t
    simp only [List.zipIdx_cons, List.map_cons, List.map_toArray] at ih ⊢
    rw [h]
    exact congrArg _ ih
/-- a literal of statements -/
theorem build_sts (hg : o.guard = none) {t : TypeId} (len : Nat) (parts : Array (Nat × Operand)) (ho : o.op = .buildSlice t len parts) (N : Nat) (hN : w.heap.size = N) (dst : Option Tmp) (hdst : o.dst = dst) (hu : P.underlying t = some (.slice e))
    (hsz : (P.info? e).map (·.size) = some 33) (hzz : ((P.info? e).bind (·.zero)).map (·.cells.size) = some 33) (L : List St) (vs : List Value) (hvs : vs = L.map fun s => .agg (s.cs.map oV).toArray) (hlen : len = L.length) (hpos : 0 < len) (hsm : len ≤ 64)
    (ts : List Nat) (hpt : parts = ((ts.zipIdx 0).map fun x => (x.2, Operand.tmp x.1)).toArray) (hev : EvL a ts vs)
    (h : wpList P ops Q rest (a.put dst (.slice (some ⟨N, 0, none⟩) len len)) (w.alloc (.cells (stCells L).toArray e))) : wpList P ops Q (o :: rest) a w := by
  refine Great.wpList_buildSliceTo hg t e len parts ho N hN dst hdst hu (stCells L).toArray ?_ h
  have hparts := evL_parts a ts vs 0 hev
  rw [← hpt] at hparts
  obtain ⟨ie, hie, hs⟩ := Option.map_eq_some_iff.1 hsz
  rw [hie, Option.bind_some] at hzz
  obtain ⟨z, hz, hzs⟩ := Option.map_eq_some_iff.1 hzz
  unfold Program.builtSlice
  simp only [hie, hz, hs]
  rw [if_neg (by omega), hparts, Great.fill_whole (s := 33) (by omega) vs _ (by
    intro v hv
    rw [hvs] at hv
    obtain ⟨s, _, rfl⟩ := List.mem_map.1 hv
    show (s.cs.map oV).toArray.size = 33
    simp [St.cs_length]) (by rw [hvs]; simp [hlen])]
  congr 2
  rw [hvs, List.flatMap_map]
  rfl
end
end Go.Proofs.YtllomcmhkocdfaaGreatDoor

/- The law's line: a program of statements without blocks of their own. -/
namespace Go.Proofs.YtllomcmhkocdfaaGreatDoor
open Go Go.RowKit Mem
set_option maxRecDepth 100000

theorem below_al {w w' : World} (h : Below w.heap.size w w') (o : Obj) : Below w.heap.size w (w'.alloc o) := h.alloc h.size o
theorem aggProgram : AggT Tryz.prog 28 2 := ⟨fun _ => by kernel_rfl, fun _ => by kernel_rfl⟩
/-- a statement without blocks -/
def noB (s : St) : St := { s with t := -1, e := -1 }
def nums (n : Nat) : List Int := (List.range n).map Int.ofNat
theorem nums_succ (n : Nat) : nums n ++ [(n : Int)] = nums (n + 1) := by simp [nums, List.range_succ]
theorem nums_length (n : Nat) : (nums n).length = n := by simp [nums]
/-- statements that can be read -/
def StRd (w : World) (p : Option Addr) (L : List St) : Prop := L = [] ∨ ∃ b o, p = some ⟨b, o, none⟩ ∧ b < w.heap.size ∧ ∀ j s, L[j]? = some s → At oV w b (o + j * 33) s.cs
theorem StRd.below {w w' : World} {p : Option Addr} {L : List St} (h : StRd w p L) (hb : Below w.heap.size w w') : StRd w' p L := by
  rcases h with h | ⟨b, o, hp, hl, ha⟩
  · exact .inl h
  · exact .inr ⟨b, o, hp, Nat.lt_of_lt_of_le hl hb.size, fun j s hj => (ha j s hj).below hb hl⟩
def slOf (g n c : Nat) : OC := ⟨.slice (some ⟨g, 0, none⟩) n c, rfl⟩
/-- what line works on: the program's variable n + 3, its blocks n + 2 -/
structure LnW (n : Nat) (w w' : World) (vs vi : OC) (L : List St) (k : Nat) : Prop where
  below : Below n w w'
  le : n + 4 ≤ w'.heap.size
  res : Row oV w' n 28 [on, on]
  blk : Row oV w' (n + 2) 39 [vi]
  prg : Row oV w' (n + 3) 28 [vs, slOf (n + 2) 1 1]
  own : w'.ownsRow (n + 1) 45 33 vs.1 L.length (stCells L)
  ints : Mem.Own iV w' (n + 1) 3 vi.1 (nums k)
  hS : ∀ g, vs.1.ownBlock = some g → g ≠ n + 2 ∧ g ≠ n + 3 ∧ vi.1.ownBlock ≠ some g
  hI : ∀ g, vi.1.ownBlock = some g → g ≠ n + 2 ∧ g ≠ n + 3
section
variable {P : Program} {ops : Array Oper} {rest : List Oper} {o : Oper} {a : Act} {Q : Exit → Act → World → Prop} {w : World} {base : Nat} {e : TypeId} {v : Value}
theorem append_bigL {t : TypeId} {size bytes : Nat} (hgd : o.guard = none) (s x : Operand) (ho : o.op = .call { callee := .builtin .append, args := #[s, x], argTypes := #[t, t] })
    (ht : P.underlying t = some (.slice e)) (hsz : (P.info? e).map (·.size) = some size) (hbt : (P.info? e).map (·.bytes) = some bytes) (hzz : ((P.info? e).bind (·.zero)).map (·.cells.size) = some size) (hpos : 0 < size)
    (n : Nat) (xs : List Value) (hs : a.eval s = v) (hown : w.ownsRow base e size v n xs) (g0 : Nat) (ys : List Value) (hyl : ys.length = size) (hx : a.eval x = .slice (some ⟨g0, 0, none⟩) 1 1) (hc : ∀ j u, ys[j]? = some u → w.cell? ⟨g0, j, none⟩ = some u)
    (h1 : ∀ u ∈ ys, u.oneCell' = true) (hn : n + 1 ≤ maxLen) (hbytes : (n + 1) * bytes ≤ 140737488355328) (hbase : base ≤ w.heap.size)
    (h : ∀ v' w', w'.ownsRow base e size v' (n + 1) (xs ++ ys) → w.grownBy w' v.ownBlock → (∀ g, v'.ownBlock = some g → v.ownBlock = some g ∨ w.heap.size ≤ g) → wpList P ops Q rest (a.put o.dst v') w') : wpList P ops Q (o :: rest) a w := by
  obtain ⟨i, hi, hsize⟩ := Option.map_eq_some_iff.1 hsz
  rw [hi, Option.bind_some] at hzz
  obtain ⟨z, hz, hzs⟩ := Option.map_eq_some_iff.1 hzz
  rw [hi] at hbt
  simp only [Option.map_some, Option.some.injEq] at hbt
  exact wpList_plain hgd fun _ hK => append_big s x ho ht hi hz hsize hbt hzs hpos n xs hs hown g0 ys hyl hx hc h1 hn hbytes hbase fun v' w' h2 h3 h4 => hK _ _ (h v' w' h2 h3 h4)
end
section
variable {n : Nat} {w w1 w2 : World} {vs vi : OC} {L : List St} {k : Nat}
theorem LnW.nle (h : LnW n w w1 vs vi L k) : n ≤ w1.heap.size := Nat.le_trans (Nat.le_add_right _ _) h.le
theorem LnW.keep (h : LnW n w w1 vs vi L k) (hb : Below w1.heap.size w1 w2) : LnW n w w2 vs vi L k :=
  ⟨h.below.trans (hb.mono h.nle), Nat.le_trans h.le hb.size, h.res.below hb h.res.lt, h.blk.below hb h.blk.lt, h.prg.below hb h.prg.lt, ownsRow_keep h.own fun g _ hl => hb.block g hl, h.ints.below' hb, h.hS, h.hI⟩
theorem LnW.addS (h : LnW n w w1 vs vi L k) (vs' : OC) (s : St) (hg : w1.grownBy w2 vs.1.ownBlock) (ho : w2.ownsRow (n + 1) 45 33 vs'.1 (L.length + 1) (stCells L ++ s.cs.map oV)) (hn : ∀ g, vs'.1.ownBlock = some g → vs.1.ownBlock = some g ∨ w1.heap.size ≤ g) :
    LnW n w (w2.setCell ⟨n + 3, 0, none⟩ vs'.1) vs' vi (L ++ [s]) k := by
  have hle := h.le
  have hsz := hg.size
  have nb : ∀ g, n ≤ g → g < n + 4 → g ≠ n + 1 → some g ≠ vs.1.ownBlock := fun g h1 h2 h3 e => by
    have h4 := (World.ownsRow.lt h.own g e.symm).1
    have h5 := h.hS g e.symm
    omega
  have hS' : ∀ g, vs'.1.ownBlock = some g → g ≠ n + 2 ∧ g ≠ n + 3 ∧ vi.1.ownBlock ≠ some g := fun g e => by
    rcases hn g e with e | e
    · exact h.hS g e
    · exact ⟨by omega, by omega, fun e2 => by have := (World.ownsRow.lt h.ints g e2).2; omega⟩
  have hp := (h.prg.grown hg (nb _ (by omega) (by omega) (by omega))).set 0 vs'
  refine ⟨(below_set (h.below.grown hg h.nle (fun g e => by have := (World.ownsRow.lt h.own g e).1; omega)) 0 (by omega) _), by simp; omega, (h.res.grown hg (nb _ (by omega) (by omega) (by omega))).set_other (by omega) _ _, (h.blk.grown hg (nb _ (by omega) (by omega) (by omega))).set_other (by omega) _ _, hp, ?_, ?_, hS', h.hI⟩
  · rw [List.length_append, stCells_append]
    refine ownsRow_keep (by simpa [stCells] using ho) fun g e _ => Below.heap_setCell _ _ _ _ (hS' g e).2.1
  · exact ownsRow_keep h.ints fun g e hl => (Below.heap_setCell _ _ _ _ (h.hI g e).2).trans (hg.block g hl fun e2 => (h.hS g e2.symm).2.2 e)
theorem LnW.addI (h : LnW n w w1 vs vi L k) (vi' : OC) (hg : w1.grownBy w2 vi.1.ownBlock) (ho : Mem.Own iV w2 (n + 1) 3 vi'.1 (nums (k + 1))) (hn : ∀ g, vi'.1.ownBlock = some g → vi.1.ownBlock = some g ∨ w1.heap.size ≤ g) :
    LnW n w (w2.setCell ⟨n + 2, 0, none⟩ vi'.1) vs vi' L (k + 1) := by
  have hle := h.le
  have hsz := hg.size
  have nb : ∀ g, n ≤ g → g < n + 4 → g ≠ n + 1 → some g ≠ vi.1.ownBlock := fun g h1 h2 h3 e => by
    have h4 := (World.ownsRow.lt h.ints g e.symm).1
    have h5 := h.hI g e.symm
    omega
  have hI' : ∀ g, vi'.1.ownBlock = some g → g ≠ n + 2 ∧ g ≠ n + 3 := fun g e => by
    rcases hn g e with e | e
    · exact h.hI g e
    · omega
  have hp := (h.blk.grown hg (nb _ (by omega) (by omega) (by omega))).set 0 vi'
  refine ⟨(below_set (h.below.grown hg h.nle (fun g e => by have := (World.ownsRow.lt h.ints g e).1; omega)) 0 (by omega) _), by simp; omega, (h.res.grown hg (nb _ (by omega) (by omega) (by omega))).set_other (by omega) _ _, hp, (h.prg.grown hg (nb _ (by omega) (by omega) (by omega))).set_other (by omega) _ _, ?_, ?_, ?_, hI'⟩
  · exact ownsRow_keep h.own fun g e hl => (Below.heap_setCell _ _ _ _ (h.hS g e).1).trans (hg.block g hl fun e2 => (h.hS g e).2.2 e2.symm)
  · exact ownsRow_keep ho fun g e _ => Below.heap_setCell _ _ _ _ (hI' g e).1
  · intro g e
    refine ⟨(h.hS g e).1, (h.hS g e).2.1, fun e2 => ?_⟩
    rcases hn g e2 with e3 | e3
    · exact (h.hS g e).2.2 e3
    · have := (World.ownsRow.lt h.own g e).2; omega
end

set_option maxHeartbeats 16000000 in
theorem lLine (w : World) (lp : Option Addr) (lc : Nat) (L : List St) (hL : L.length ≤ 64) (hrd : StRd w lp L) :
    Calls Tryz.prog 12 #[.slice lp L.length lc] w fun e w' => ∃ vs vi : OC, e = .returned (.agg #[vs.1, .slice (some ⟨w.heap.size + 2, 0, none⟩) 1 1]) ∧ Below w.heap.size w w' ∧
      Row oV w' (w.heap.size + 2) 39 [vi] ∧ w'.ownsRow (w.heap.size + 1) 45 33 vs.1 L.length (stCells (L.map noB)) ∧ Mem.Own iV w' (w.heap.size + 1) 3 vi.1 (nums L.length) ∧ (∀ g, vs.1.ownBlock = some g → g ≠ w.heap.size + 2 ∧ vi.1.ownBlock ≠ some g) := by
  have HRD := Lib.hid hrd
  obtain ⟨ll, Hll⟩ : ∃ m, Hid (L.length = m) := ⟨_, Lib.hid rfl⟩
  have hl64 : ll ≤ 64 := by rw [← Hll.out]; exact hL
  rw [Hll.out]
  clear hrd hL
  go_enter Tryz.func12, Tryz.ntmps12
  go_upto_region 2 with (fail)
  obtain ⟨W, hW, hB, hs, g0, g1, g2, g3⟩ : ∃ W, ((((w.alloc (.cells #[.slice none 0 0, .slice none 0 0] 28)).alloc (.cells #[] 3)).alloc (.cells #[.slice (some ⟨w.heap.size + 1, 0, none⟩) 0 0] 39)).alloc (.cells #[.slice none 0 0, .slice (some ⟨w.heap.size + 1 + 1, 0, none⟩) 1 1] 28)) = W ∧ Below w.heap.size w W ∧ W.heap.size = w.heap.size + 4 ∧
      Row oV W w.heap.size 28 [on, on] ∧ W.heap[w.heap.size + 1]? = some (.cells #[] 3 (0, 0)) ∧ Row oV W (w.heap.size + 2) 39 [slOf (w.heap.size + 1) 0 0] ∧ Row oV W (w.heap.size + 3) 28 [on, slOf (w.heap.size + 2) 1 1] := by
    refine ⟨_, rfl, below_al (below_al (below_al (below_al (Below.refl _ _) _) _) _) _, by simp, ?_, ?_, ?_, ?_⟩
    all_goals repeat (first | (refine heap_new' _ _ _ ?_; (simp; done)) | (refine (Below.heap_alloc _ _ _ ?_).trans ?_; · (simp <;> omega)))
  rw [hW]
  clear hW
  rw [show w.heap.size + 1 + 1 = w.heap.size + 2 from rfl, show w.heap.size + 2 + 1 = w.heap.size + 3 from rfl]
  have hln0 : LnW w.heap.size w W on (slOf (w.heap.size + 1) 0 0) [] 0 :=
    ⟨hB, by omega, g0, g2, g3, World.ownsRow_nil _ _ _ _, ⟨rfl, .inr ⟨w.heap.size + 1, 0, #[], rfl, Nat.le_refl _, g1, Nat.le_refl _, by simp only [maxLen]; omega, rfl, rfl⟩⟩, fun g e => (by cases e), fun g e => (by cases e; exact ⟨by show w.heap.size + 1 ≠ _; omega, by show w.heap.size + 1 ≠ _; omega⟩)⟩
  clear hB hs g0 g1 g2 g3
  obtain ⟨n, hn⟩ : ∃ n, w.heap.size = n := ⟨_, rfl⟩
  rw [hn] at hln0 ⊢
  have HN0 := Lib.hid hn
  go_wp2_with fail
  go_loopw [4] (fun i wr => ∃ (j : Nat) (vs vi : OC), j ≤ ll ∧ i = .int .i64 j ∧ LnW n w wr vs vi ((L.take j).map noB) j) (fun i _ => ll - (intOf i).toNat)
  case atStart => exact ⟨0, _, _, by omega, rfl, hln0⟩
  clear hln0 hn
  case round =>
    obtain ⟨j, vs, vi, hj, rfl, hln⟩ := hrel
    by_cases hlt : j < ll
    · have hq : (j : Int) < (ll : Int) := by omega
      obtain ⟨lb, lo, rfl, hlb, hla⟩ : ∃ b o, lp = some ⟨b, o, none⟩ ∧ b < w.heap.size ∧ ∀ j s, L[j]? = some s → At oV w b (o + j * 33) s.cs := by
        rcases HRD.out with h0 | h0
        · have := Hll.out; rw [h0] at this; simp at this; omega
        · exact h0
      have hjl : j < L.length := by rw [Hll.out]; exact hlt
      obtain ⟨s, hsj⟩ : ∃ s, L[j]? = some s := ⟨_, List.getElem?_eq_getElem hjl⟩
      have hA : At oV wr lb (lo + j * 33) s.cs := (hla j s hsj).below hln.below (by rw [← HN0.out]; exact hlb)
      have HTK : Hid ((L.take (j + 1)).map noB = (L.take j).map noB ++ [noB s]) := Lib.hid (by
        rw [List.take_succ_eq_append_getElem hjl, List.map_append]
        have : L[j] = s := by rw [List.getElem?_eq_getElem hjl] at hsj; exact Option.some.inj hsj
        rw [this]; rfl)
      have HLN := Lib.hid hln
      have hsr := hln.le
      obtain ⟨C1, HC1⟩ : ∃ C, Hid (C = (s.cs.map oV).toArray) := ⟨_, Lib.hid rfl⟩
      have hZ : Row oV (wr.alloc (.cells zStmtC 45)) wr.heap.size 45 (stC 0 0 ⟨#[]⟩ 0 0) := Row.new _ _ rfl
      clear hln hla hjl hsj hlb
      go_upto_region 6 with (first
        | ((with_reducible refine load_agg (f := oV) (l := s.cs) (aggSt _) (.tmp 17) ?_ ?_ lb (lo + j * 33) ?_ hA HC1.out ?_); rfl; rfl; rfl)
        | ((with_reducible refine store_agg (f := oV) (l := stC 0 0 ⟨#[]⟩ 0 0) (l' := s.cs) (t := 45) (C := C1) (aggSt _) (.tmp 5) (.tmp 18) ?_ ?_ wr.heap.size ?_ ?_ ?_ hZ ?_ oV_one ?_); rfl; rfl; rfl; exact HC1.out; rfl; rfl; (intro W8 hs8 hG8 hz8)))
      have hb8 : Below wr.heap.size wr W8 := ((Below.refl _ _).alloc (Nat.le_refl _) (.cells zStmtC 45)).grown hG8 (by simp) (fun k e => by cases e; exact Nat.le_refl _)
      obtain ⟨C2, HC2⟩ : ∃ C, Hid (C = ((noB s).cs.map oV).toArray) := ⟨_, Lib.hid rfl⟩
      have e31 : W8.cell? ⟨wr.heap.size, 31, none⟩ = some (.int .i64 s.t) := by rw [hs8.cell?]; rfl
      have e32 : W8.cell? ⟨wr.heap.size, 32, none⟩ = some (.int .i64 s.e) := by rw [hs8.cell?]; rfl
      have f31 := hs8.frozen 31
      have f32 := hs8.frozen 32
      have hs9 : Row oV ((W8.setCell ⟨wr.heap.size, 31, none⟩ (.int .i64 (-1))).setCell ⟨wr.heap.size, 32, none⟩ (.int .i64 (-1))) wr.heap.size 45 (noB s).cs := (hs8.set 31 (oi (-1))).set 32 (oi (-1))
      have hb9 : Below wr.heap.size wr ((W8.setCell ⟨wr.heap.size, 31, none⟩ (.int .i64 (-1))).setCell ⟨wr.heap.size, 32, none⟩ (.int .i64 (-1))) := below_set (below_set hb8 31 (Nat.le_refl _) _) 32 (Nat.le_refl _) _
      clear hZ hG8 hz8 hA hs8 hb8
      go_upto_region 8 with (fail)
      clear e31 e32 f31 f32
      generalize ((W8.setCell ⟨wr.heap.size, 31, none⟩ (.int .i64 (-1))).setCell ⟨wr.heap.size, 32, none⟩ (.int .i64 (-1))) = W9 at hs9 hb9 ⊢
      have hL9 := HLN.out.keep hb9
      have hlen : ((L.take j).map noB).length = j := by rw [List.length_map, List.length_take, Hll.out]; omega
      have hOS := hL9.own
      rw [hlen] at hOS
      obtain ⟨fp, fc, hfs⟩ : ∃ p c, vs.1 = .slice p j c := by
        rcases hOS.2 with ⟨h0, h1⟩ | ⟨g, cap, cur, h0, _⟩
        · exact ⟨none, 0, by rw [h0, h1]⟩
        · exact ⟨_, _, h0⟩
      rw [hfs] at hOS
      have p3 : W9.cell? ⟨n + 3, 0, none⟩ = some (.slice fp j fc) := by rw [hL9.prg.cell?, ← hfs]; rfl
      have hle9 := hL9.le
      have HNE : some (n + 3) ≠ (Value.slice fp j fc).ownBlock := fun e => (hL9.hS _ (by rw [hfs]; exact e.symm)).2.1 rfl
      have hal : Below W9.heap.size W9 (W9.alloc (.cells (stCells [noB s]).toArray 45)) := (Below.refl _ _).alloc (Nat.le_refl _) _
      have hOA := ownsRow_keep hOS fun g _ hl => hal.block g hl
      have hLa := hL9.keep hal
      have hca : ∀ i u, ((noB s).cs.map oV)[i]? = some u → (W9.alloc (.cells (stCells [noB s]).toArray 45)).cell? ⟨W9.heap.size, i, none⟩ = some u := fun i u hi => by
        have hi2 : i < (noB s).cs.length := by have := (List.getElem?_eq_some_iff.1 hi).1; simpa using this
        have := (Sts.new W9 [noB s]).at 0 (noB s) rfl i hi2
        rw [Nat.zero_mul, Nat.zero_add] at this
        rw [this, ← List.getElem?_map]; exact hi
      have h1a : ∀ u ∈ (noB s).cs.map oV, u.oneCell' = true := fun u hu => by obtain ⟨y, _, rfl⟩ := List.mem_map.1 hu; exact y.2
      have HS9 := Lib.hid (And.intro hLa (And.intro hlen hfs))
      clear hL9 hLa hOS HLN hlen hal
      go_upto_region 9 with ((with_reducible refine load_agg (f := oV) (l := (noB s).cs) (aggSt _) (.tmp 5) ?_ ?_ wr.heap.size 0 ?_ hs9.at HC2.out ?_); rfl; rfl; rfl; refine Pause.back ?_)
      refine Pause.out ?_
      refine build_sts rfl (t := 25) 1 #[(0, .tmp 23)] rfl W9.heap.size rfl (some 24) rfl Tryz.underlying25 rfl rfl [noB s] [.agg C2] (by rw [HC2.out]; rfl) rfl (by omega) (by omega) [23] rfl (.cons rfl .nil) ?_
      simp only [Act.put, List.setIfInBounds_toArray, List.set_cons_succ, List.set_cons_zero]
      refine append_bigL (t := 25) (size := 33) (bytes := 368) rfl (.tmp 22) (.tmp 24) rfl Tryz.underlying25 rfl rfl rfl (by omega) j _ rfl hOA W9.heap.size ((noB s).cs.map oV) rfl rfl hca h1a (by simp only [maxLen]; omega) (by omega) (by rw [World.size_alloc]; omega) ?_
      intro v2 w2 hO2 hG2 hW2
      obtain ⟨g2, c2, rfl⟩ : ∃ g c, v2 = .slice (some ⟨g, 0, none⟩) (j + 1) c := by
        rcases hO2.2 with ⟨_, h0⟩ | ⟨g, cap, cur, he, _⟩
        · omega
        · exact ⟨g, cap, he⟩
      have hr9 := HS9.out.1.prg.grown hG2 HNE
      have e9 : w2.cell? ⟨n + 3, 0, none⟩ = some (.slice fp j fc) := by rw [hr9.cell?, ← HS9.out.2.2]; rfl
      have f9 := hr9.frozen 0
      simp only [Act.put, List.setIfInBounds_toArray, List.set_cons_succ, List.set_cons_zero]
      have hLs := HS9.out.1.addS ⟨.slice (some ⟨g2, 0, none⟩) (j + 1) c2, rfl⟩ (noB s) (by rw [HS9.out.2.2]; exact hG2) (by rw [HS9.out.2.1]; exact hO2) (fun g e => by rw [HS9.out.2.2]; exact hW2 g e)
      rw [← HTK.out] at hLs
      have HLS := Lib.hid hLs
      clear hLs hO2 hG2 hW2 hr9 hca h1a hOA HNE p3 hs9 hb9 HS9
      go_upto_region 9 with (fail)
      clear e9 f9
      generalize (w2.setCell ⟨n + 3, 0, none⟩ (.slice (some ⟨g2, 0, none⟩) (j + 1) c2)) = W5 at HLS ⊢
      generalize wr.heap.size = sb at *
      obtain ⟨ip, ic, hvi⟩ : ∃ p c, vi.1 = .slice p j c := by
        rcases HLS.out.ints.2 with ⟨h0, h1⟩ | ⟨g, cap, cur, h0, _⟩
        · rw [nums_length] at h1; exact ⟨none, 0, by rw [h0, h1]⟩
        · rw [nums_length] at h0; exact ⟨_, _, h0⟩
      have hOI := HLS.out.ints
      rw [hvi] at hOI
      have hle5 := HLS.out.le
      have HC : Hid (∀ Z, W5.grownBy Z (Value.slice ip j ic).ownBlock → Z.cell? ⟨n + 3, 1, none⟩ = some (.slice (some ⟨n + 2, 0, none⟩) 1 1) ∧ Z.cell? ⟨n + 2, 0, none⟩ = some (.slice ip j ic) ∧ Z.frozen? ⟨n + 2, 0, none⟩ = false) := Lib.hid fun Z hZ => by
        have hp := HLS.out.prg.grown hZ (fun e => (HLS.out.hI _ (by rw [hvi]; exact e.symm)).2 rfl)
        have hb := HLS.out.blk.grown hZ (fun e => (HLS.out.hI _ (by rw [hvi]; exact e.symm)).1 rfl)
        exact ⟨by rw [hp.cell?]; rfl, by rw [hb.cell?, ← hvi]; rfl, hb.frozen 0⟩
      refine region_headsT (S := fun Z => W5.grownBy Z (Value.slice ip j ic).ownBlock) 9 rfl (by kernel_rfl) (grown_drew (grown_of_below (Below.refl _ _) _)) fun hS => ?_
      refine headsT_takeD (i := 0) (d := 27) (v := .pointer (some ⟨n + 3, 1, none⟩)) (by kernel_rfl) rfl rfl (by omega) (by kernel_rfl) (by kernel_rfl) (fun c a w h => h) (yieldsIf_op rfl (fun w => by first | rfl | kernel_rfl | (go_simp; done))) hS ?_
      simp only [List.setIfInBounds_toArray, List.set_cons_succ, List.set_cons_zero]
      refine headsT_takeD (i := 1) (d := 28) (v := .slice (some ⟨n + 2, 0, none⟩) 1 1) (by kernel_rfl) rfl rfl (by omega) (by kernel_rfl) (by kernel_rfl) (fun c a w h => h) ((.inl ⟨by first | rfl | kernel_rfl, fun W' h => by have q0 := (HC.out W' h).1; go_simp⟩)) hS ?_
      simp only [List.setIfInBounds_toArray, List.set_cons_succ, List.set_cons_zero]
      refine headsT_takeD (i := 2) (d := 29) (v := .pointer (some ⟨n + 3, 1, none⟩)) (by kernel_rfl) rfl rfl (by omega) (by kernel_rfl) (by kernel_rfl) (fun c a w h => h) (yieldsIf_op rfl (fun w => by first | rfl | kernel_rfl | (go_simp; done))) hS ?_
      simp only [List.setIfInBounds_toArray, List.set_cons_succ, List.set_cons_zero]
      refine headsT_takeD (i := 3) (d := 30) (v := .slice (some ⟨n + 2, 0, none⟩) 1 1) (by kernel_rfl) rfl rfl (by omega) (by kernel_rfl) (by kernel_rfl) (fun c a w h => h) ((.inl ⟨by first | rfl | kernel_rfl, fun W' h => by have q0 := (HC.out W' h).1; go_simp⟩)) hS ?_
      simp only [List.setIfInBounds_toArray, List.set_cons_succ, List.set_cons_zero]
      refine headsT_takeD (i := 4) (d := 31) (v := .pointer (some ⟨n + 2, 0, none⟩)) (by kernel_rfl) rfl rfl (by omega) (by kernel_rfl) (by kernel_rfl) (fun c a w h => h) (yieldsIf_op rfl (fun w => by go_simp)) hS ?_
      simp only [List.setIfInBounds_toArray, List.set_cons_succ, List.set_cons_zero]
      refine headsT_takeD (i := 5) (d := 32) (v := .slice ip j ic) (by kernel_rfl) rfl rfl (by omega) (by kernel_rfl) (by kernel_rfl) (fun c a w h => h) ((.inl ⟨by first | rfl | kernel_rfl, fun W' h => by have q0 := (HC.out W' h).2.1; go_simp⟩)) hS ?_
      simp only [List.setIfInBounds_toArray, List.set_cons_succ, List.set_cons_zero]
      refine headsT_takeD (i := 6) (d := 33) (v := .int .i64 (j : Int)) (by kernel_rfl) rfl rfl (by omega) (by kernel_rfl) (by kernel_rfl) (fun c a w h => h) (yieldsIf_op rfl (fun w => by first | rfl | kernel_rfl | (go_simp; done))) hS ?_
      simp only [List.setIfInBounds_toArray, List.set_cons_succ, List.set_cons_zero]
      refine headsT_ready (rs := [7]) (by kernel_rfl) (by simp) (AllReadyT.cons (by omega) rfl (fun K' hK => ?_) AllReadyT.nil)
      have hal : Below W5.heap.size W5 (W5.drew.alloc (.cells #[.int .i64 (j : Int)] 3)) := ((Below.refl _ _).drew).alloc (Nat.le_refl _) _
      refine valueD (d := 34) (v := .slice (some ⟨W5.drew.heap.size, 0, none⟩) 1 1) (w' := W5.drew.alloc (.cells #[.int .i64 (j : Int)] 3)) rfl rfl (by first | rfl | kernel_rfl) ?_
      refine hK.out _ _ (grown_of_below hal _) fun _ => ?_
      clear hK
      simp only [List.setIfInBounds_toArray, List.set_cons_succ, List.set_cons_zero]
      refine headsT_ready (rs := [8]) (by kernel_rfl) (by simp) (AllReadyT.cons (by omega) rfl (fun K' hK => ?_) AllReadyT.nil)
      have hLb := HLS.out.keep hal
      have hOb := hOI.below' hal
      have n0 : (W5.drew.alloc (.cells #[.int .i64 (j : Int)] 3)).cell? ⟨W5.drew.heap.size, 0, none⟩ = some (.int .i64 (j : Int)) := by unfold World.cell?; rw [World.alloc_heap_new]; rfl
      have hlb : n + 1 ≤ (W5.drew.alloc (.cells #[.int .i64 (j : Int)] 3)).heap.size := by have := hal.size; omega
      rw [if_pos (by rfl)]
      refine append_big (t := 39) (size := 1) (bytes := 8) (.tmp 32) (.tmp 34) rfl Tryz.underlying39 rfl rfl rfl rfl rfl (by omega) j _ rfl (by have h := hOb; unfold Mem.Own at h; rw [nums_length] at h; exact h) W5.drew.heap.size [.int .i64 (j : Int)] rfl rfl (fun i u hi => by
        match i, hi with
        | 0, hi => cases hi; exact n0
        | i + 1, hi => simp at hi) (by intro u hu; simp only [List.mem_cons, List.not_mem_nil, or_false] at hu; subst hu; rfl) (by simp only [maxLen]; omega) (by omega) hlb ?_
      intro v3 w3 hO3 hG3 hW3
      obtain ⟨g3, c3, rfl⟩ : ∃ g c, v3 = .slice (some ⟨g, 0, none⟩) (j + 1) c := by
        rcases hO3.2 with ⟨_, h0⟩ | ⟨g, cap, cur, he, _⟩
        · omega
        · exact ⟨g, cap, he⟩
      have hS3 := (grown_of_below hal (Value.slice ip j ic).ownBlock).andThen hG3 (fun j e => .inr e)
      have hLi := hLb.addI ⟨.slice (some ⟨g3, 0, none⟩) (j + 1) c3, rfl⟩ (by rw [hvi]; exact hG3) (by unfold Mem.Own; rw [nums_length, ← nums_succ, List.map_append]; exact hO3) (fun g e => by rw [hvi]; exact hW3 g e)
      have HLI := Lib.hid hLi
      refine hK.out _ _ hS3 fun _ => ?_
      obtain ⟨h31, h20, f20⟩ := HC.out _ hS3
      clear hK hLi hO3 hG3 hW3 hLb hOb n0 hal hS hS3 hOI HC
      simp only [Act.put, List.setIfInBounds_toArray, List.set_cons_succ, List.set_cons_zero]
      refine headsT_tail (by kernel_rfl) ?_
      simp only [List.drop]
      go_wp2_with fail
      generalize (w3.setCell ⟨n + 2, 0, none⟩ (.slice (some ⟨g3, 0, none⟩) (j + 1) c3)) = W6 at HLI ⊢
      go_roundw
      case rel => exact ⟨j + 1, _, _, by omega, by go_num, HLI.out⟩
      case measure => simp [intOf]; omega
    · obtain rfl : j = ll := by omega
      have hTK : (L.take j).map noB = L.map noB := by rw [List.take_of_length_le (by rw [Hll.out]; exact Nat.le_refl _)]
      rw [hTK] at hln
      have hlen : (L.map noB).length = j := by rw [List.length_map, Hll.out]
      have HLN := Lib.hid hln
      obtain ⟨vsv, vc⟩ := vs
      obtain ⟨p, c, rfl⟩ : ∃ p c, vsv = .slice p j c := by
        have h := hln.own
        rw [hlen] at h
        rcases h.2 with ⟨h0, h1⟩ | ⟨g, cap, cur, h0, _⟩
        · exact ⟨none, 0, by rw [h1]; exact h0⟩
        · exact ⟨_, _, h0⟩
      have e0 : wr.cell? ⟨n + 3, 0, none⟩ = some (.slice p j c) := by rw [hln.prg.cell?]; rfl
      have e1 : wr.cell? ⟨n + 3, 1, none⟩ = some (.slice (some ⟨n + 2, 0, none⟩) 1 1) := by rw [hln.prg.cell?]; rfl
      have p0 := hln.res
      clear hln
      go_wp2_with (first
        | ((with_reducible refine store_agg (f := oV) (l := [on, on]) (l' := [⟨.slice p j c, rfl⟩, slOf (n + 2) 1 1]) (t := 28) (C := #[.slice p j c, .slice (some ⟨n + 2, 0, none⟩) 1 1]) aggProgram (.tmp 2) (.tmp 37) ?_ ?_ n ?_ ?_ ?_ p0 ?_ oV_one ?_); rfl; rfl; rfl; rfl; rfl; rfl; (intro Y hsY hGY hzY)))
      refine bodyPost_ret (v := .agg #[.slice p j c, .slice (some ⟨n + 2, 0, none⟩) 1 1]) (results_agg (f := oV) (l := [⟨.slice p j c, rfl⟩, slOf (n + 2) 1 1]) rfl _ aggProgram n 0 rfl hsY.at) rfl ?_
      have hln := HLN.out
      have hown := hln.own
      rw [hlen] at hown
      rw [HN0.out]
      exact ⟨⟨.slice p j c, rfl⟩, vi, rfl, (hln.below.grown hGY hln.nle (fun g e => by cases e; exact Nat.le_refl _)), hln.blk.grown hGY (by intro e; injection e with e; omega), ownsRow_keep hown (fun g e hl => hGY.block g hl (by intro e2; injection e2 with e2; have := (World.ownsRow.lt hln.own g e).1; omega)), ownsRow_keep hln.ints (fun g e hl => hGY.block g hl (by intro e2; injection e2 with e2; have := (World.ownsRow.lt hln.ints g e).1; omega)), fun g e => ⟨(hln.hS g e).1, (hln.hS g e).2.2⟩⟩
end Go.Proofs.YtllomcmhkocdfaaGreatDoor
