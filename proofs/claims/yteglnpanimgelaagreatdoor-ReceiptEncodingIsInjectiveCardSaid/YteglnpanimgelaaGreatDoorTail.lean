/- A region that draws its order, whose operations but the last ones read or call quietly (a call may draw), the last ones being forced behind all others: one walk of the text's order serves every order. -/
import Derived.StillTail
import Derived.Deep.Quiet
import Derived.Deep.QuietTactic
namespace Go.Proofs.YteglnpanimgelaaGreatDoor.Mem
open Go

variable {P : Program} {ops : Array Oper} {C : World → Prop}

/-- f operations of the head (those below n) are still to come, in whatever order; then L holds -/
def Heads (P : Program) (ops : Array Oper) (C : World → Prop) (n : Nat) (L : Array Bool → Act → Prop) : Nat → Array Bool → Act → Prop
  | 0, s, a => L s a
  | f + 1, s, a => Region.ready .any ops s ≠ [] ∧ ∀ i ∈ Region.ready .any ops s, i < n ∧ qOp P ops C i (Heads P ops C n L f (s.setIfInBounds i true)) a

theorem wpAny_of_heads {n g : Nat} {L : Array Bool → Act → Prop} {Q : Exit → Act → World → Prop} (hL : ∀ s a w, C w → L s a → wpAny P .any ops Q g s a w) (f : Nat) :
    ∀ (s : Array Bool) (a : Act) (w : World), C w → Heads P ops C n L f s a → wpAny P .any ops Q (f + g) s a w := by
  induction f with
  | zero => intro s a w hw h; rw [Nat.zero_add]; exact hL s a w hw h
  | succ f ih =>
    intro s a w hw h
    rw [Nat.add_right_comm]
    exact ⟨fun h0 => absurd h0 h.1, fun i hi => wpOp_of_qOp hw (fun a' w' hw' h' => ih _ a' w' hw' h') (h.2 i hi).2⟩

/-- an operation of the head that may come now may be taken first -/
theorem heads_first {n i : Nat} {oi : Oper} {v : Value} {L : Array Bool → Act → Prop} (hi : ops[i]? = some oi) (hsel : ∀ (j : Nat) (o : Oper) cs b, ops[j]? = some o → o.op ≠ .select cs b)
    (hs : Region.sinkB .any ops n = true) (hc : Region.chainB .any ops n = true) (hn : n < ops.size) (hin : i < n) (hend : ∀ s a, L s a → ∀ j ∈ Region.ready .any ops s, n ≤ j) (f : Nat) :
    ∀ (s : Array Bool) (a : Act), HeadInv .any ops n s →
      (∀ j oj, ops[j]? = some oj → j ≠ i → s.getD j true = false → (∀ e ∈ oj.after, Region.binds .any e = true → e.on ≠ i) → oi.apart ops oj = true) →
      i ∈ Region.ready .any ops s → YieldsIn P ops C oi v a → Heads P ops C n L f (s.setIfInBounds i true) (a.put oi.dst v) → Heads P ops C n L (f + 1) s a := by
  induction f with
  | zero =>
    intro s a inv _ hr hy H
    refine ⟨List.ne_nil_of_mem hr, fun j hj => ⟨?_, ?_⟩⟩
    · exact Nat.lt_of_not_le fun h => tail_waits hs hc hn inv _ i rfl hin (mem_ready.1 hr).1 j h hj
    · by_cases e : j = i
      · subst e; exact hy.qOp hi H
      · exact absurd (hend _ _ H j (ready_mono hj e)) (Nat.not_le_of_lt (Nat.lt_of_not_le fun h => tail_waits hs hc hn inv _ i rfl hin (mem_ready.1 hr).1 j h hj))
  | succ f ih =>
    intro s a inv hfree hr hy H
    have hun := (mem_ready.1 hr).1
    refine ⟨List.ne_nil_of_mem hr, fun j hj => ?_⟩
    have hjn : j < n := Nat.lt_of_not_le fun h => tail_waits hs hc hn inv _ i rfl hin hun j h hj
    refine ⟨hjn, ?_⟩
    by_cases e : j = i
    · subst e; exact hy.qOp hi H
    · obtain ⟨hju, oj, hoj, hall⟩ := mem_ready.1 hj
      have hno : ∀ d ∈ oj.after, Region.binds .any d = true → d.on ≠ i := by
        intro d hd hb hq
        have := hall d hd hb
        rw [hq, getD_both hun] at this
        cases this
      have h2 := qOp_put hoj (hfree j oj hoj e hju hno) (fun cs b => hsel i oi cs b hi) (fun cs b => hsel j oj cs b hoj) hy (H.2 j (ready_mono hj e)).2
      refine qOp_mono (fun a' h3 => ih _ a' (inv.set hj hjn) ?_ (ready_mono hr (Ne.symm e)) h3.1 ?_) h2
      · intro k ok hk hki hku hkno
        refine hfree k ok hk hki ?_ hkno
        by_cases q : j = k
        · subst q; exact hju
        · rwa [getD_set_ne true q] at hku
      · rw [Array.setIfInBounds_comm _ _ e]; exact h3.2

theorem heads_lex {n g : Nat} {Lq : Act → Prop} (hsel : Region.noSelect ops = true) (hs : Region.sinkB .any ops n = true) (hc : Region.chainB .any ops n = true) (hn : n < ops.size) (l : List Oper) :
    ∀ (k : Nat) (s : Array Bool) (a : Act), (∀ j, j < l.length → l[j]? = ops[k + j]?) → k + l.length = n → HeadInv .any ops n s →
      Region.lexHead .any ops g l.length k s = true → wpQuiet P ops C Lq l a → Heads P ops C n (fun s' a' => Region.seqB .any ops g n s' = true ∧ Lq a') l.length s a := by
  induction l with
  | nil =>
    intro k s a _ hk _ hB h
    obtain rfl : k = n := by simpa using hk
    exact ⟨by simpa [Region.lexHead] using hB, h⟩
  | cons o l ih =>
    intro k s a hl hk inv hB h
    have h0 : ops[k]? = some o := by simpa using (hl 0 (by simp)).symm
    simp only [List.length_cons, Region.lexHead, Bool.and_eq_true] at hB
    have hkn : k < n := by simp only [List.length_cons] at hk; omega
    have hr : k ∈ Region.ready .any ops s := by simpa using hB.1.1
    obtain ⟨v, hy, hK⟩ := yieldsIn_of_qOp (K := wpQuiet P ops C Lq l) h0 (by unfold qOp; simp only [h0]; exact h)
    refine heads_first h0 (Region.noSelect_spec hsel) hs hc hn hkn (fun s' a' hL => seqB_ready hL.1) l.length s a inv (Region.free_spec h0 hB.1.2) hr hy ?_
    refine ih (k + 1) _ _ (fun j hj => ?_) ?_ (inv.set hr hkn) hB.2 hK
    · have := hl (j + 1) (by simp; omega)
      simpa [Nat.add_assoc, Nat.add_comm 1 j] using this
    · simp only [List.length_cons] at hk; omega

theorem region_quiet_tail {id : Nat} {Q : Exit → Act → World → Prop} {a : Act} {w : World} {l : List Oper} (n : Nat) (hm : P.follows .mixedOrders = true) (hB : Region.lexTailB .any l.toArray n = true)
    (h : wpQuiet P l.toArray (fun w' => ∃ m, w' = w.drewN m) (fun a' => ∀ w', (∃ m, w' = w.drewN m) → wpList P l.toArray Q (l.drop n) a' w') (l.take n) a) : (Code.region id l.toArray true).wp P Q a w := by
  simp only [Region.lexTailB, Bool.and_eq_true, decide_eq_true_eq] at hB
  have hn : n < l.length := by simpa using hB.1.1.1.2
  have htl : (l.take n).length = n := by simp; omega
  have hdl : (l.drop n).length = l.toArray.size - n := by simp
  have hz : HeadInv .any l.toArray n (Array.replicate l.toArray.size false) :=
    ⟨by simp, fun j oj _ hl => (by rw [getD_replicate_false] at hl; cases hl), fun t _ ht => getD_in (by simpa using ht) (getD_replicate_false _ _)⟩
  have H := heads_lex (g := l.toArray.size - n) hB.1.1.1.1 hB.1.1.2 hB.1.2 hB.1.1.1.2 (l.take n) 0 _ a (fun j hj => by rw [htl] at hj; simp [hj]) (by simpa using htl) hz (by rw [htl]; exact hB.2) h
  refine wp_region_any hm ?_
  have := wpAny_of_heads (Q := Q) (g := l.toArray.size - n) (fun s a' w' hw' hL => by
    have := wpAny_of_seq (md := .any) (Q' := Q) (l.drop n) n s a' w' (fun j => by simp [List.getElem?_drop]) (by rw [hdl]; exact hL.1) (hL.2 w' hw')
    rwa [hdl] at this) _ _ _ { w with drawn := w.drawn + 1 } ⟨1, rfl⟩ H
  rw [htl, show n + (l.toArray.size - n) = l.toArray.size by omega] at this
  exact this
end Go.Proofs.YteglnpanimgelaaGreatDoor.Mem
