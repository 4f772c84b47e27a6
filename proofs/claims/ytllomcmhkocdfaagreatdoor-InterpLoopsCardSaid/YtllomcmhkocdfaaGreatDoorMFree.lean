/- A region that draws its order, whose first n operations each bring a value of their own: one proof for each operation, whatever the order. -/
import Derived.Test.YtllomcmhkocdfaaGreatDoorMHeldTail
import Derived.Test.YtllomcmhkocdfaaGreatDoorMHeldD
import Derived.RegionTactic
namespace Go.Proofs.YtllomcmhkocdfaaGreatDoor.Mem
open Go Go.RowKit

/-- values laid into slots -/
def setAll : Array Value → List Nat → List Value → Array Value
  | t, d :: ds, v :: vs => setAll (t.setIfInBounds d v) ds vs
  | t, _, _ => t
theorem setAll_size : ∀ (D : List Nat) (vs : List Value) (t : Array Value), (setAll t D vs).size = t.size
  | [], _, _ => rfl
  | _ :: _, [], _ => rfl
  | d :: D, v :: vs, t => by rw [setAll, setAll_size D vs]; simp
theorem getD_set_at (t : Array Value) (d k : Nat) (v u : Value) : (t.setIfInBounds d v).getD k u = if d = k ∧ d < t.size then v else t.getD k u := by
  simp only [Array.getD_eq_getD_getElem?, Array.getElem?_setIfInBounds]
  by_cases h : d = k
  · subst h
    by_cases h2 : d < t.size
    · simp [h2]
    · simp [h2, Array.getElem?_eq_none (Nat.le_of_not_lt h2)]
  · simp [h]
theorem getD_setAll : ∀ (D : List Nat) (vs : List Value) (t : Array Value) (k : Nat), D.Nodup → D.length = vs.length → (∀ d ∈ D, d < t.size) →
    (k ∉ D → (setAll t D vs).getD k undef = t.getD k undef) ∧ ∀ i, i < D.length → (setAll t D vs).getD (D.getD i 0) undef = vs.getD i undef
  | [], vs, t, k, _, hl, _ => by cases vs with
    | nil => exact ⟨fun _ => rfl, fun i hi => absurd hi (Nat.not_lt_zero _)⟩
    | cons v vs => cases hl
  | d :: D, [], t, k, _, hl, _ => by cases hl
  | d :: D, v :: vs, t, k, hn, hl, hs => by
    rw [List.nodup_cons] at hn
    have ih := fun k => getD_setAll D vs (t.setIfInBounds d v) k hn.2 (by simpa using hl) (fun e he => by rw [Array.size_setIfInBounds]; exact hs e (List.mem_cons_of_mem _ he))
    refine ⟨fun hk => ?_, fun i hi => ?_⟩
    · rw [List.mem_cons, not_or] at hk
      show (setAll (t.setIfInBounds d v) D vs).getD k undef = _
      rw [(ih k).1 hk.2, getD_set_at, if_neg (fun e => hk.1 e.1.symm)]
    · cases i with
      | zero =>
        show (setAll (t.setIfInBounds d v) D vs).getD d undef = v
        rw [(ih d).1 hn.1, getD_set_at, if_pos ⟨rfl, hs d List.mem_cons_self⟩]
      | succ i => exact (ih 0).2 i (by simpa using hi)
/-- o waits for the operation j -/
def depB (o : Oper) (j : Nat) : Bool := o.after.any fun e => e.on == j && Region.binds .any e
/-- the region's own side conditions -/
def freeB (l : List Oper) (n : Nat) (D : List Nat) : Bool :=
  tailB l.toArray n && decide ((l.take n).map (·.dst) = D.map some) && ((l.take n).all fun o => o.guard.isNone) && ((List.range n).all fun i => ((l[i]?).map fun o => o.after.all fun e => !Region.binds .any e || decide (e.on < i)).getD false) && decide D.Nodup &&
    Region.seqB .any l.toArray (l.length - n) n (List.replicate n true ++ List.replicate (l.length - n) false).toArray

section
variable {P : Program} {l : List Oper} {Q : Exit → Act → World → Prop} {a0 : Act} {w0 : World} {n : Nat} {D : List Nat} {Φ : Nat → Value → World → Prop}
theorem free_value {o : Oper} {a : Act} {w w' : World} {K : Act → World → Prop} {v : Value} (he : (execOp a.eval o).run P w = .ok (.value v) w') (h : K (a.put o.dst v) w') : o.wp P a w K Q := by
  unfold Oper.wp
  rw [he]
  exact h
theorem free_call {o : Oper} {a : Act} {w : World} {K : Act → World → Prop} {g : FuncId} {args : Array Value} (hg : o.guard = none) (he : (execOp a.eval o).run P w = .ok (.enter g args) w) (h : Calls P g args w fun e w' => ∃ v, e = .returned v ∧ K (a.put o.dst v) w') : o.wp P a w K Q := by
  have hw : ∀ y, Region.wanted o y = true := fun y => by unfold Region.wanted; rw [hg]
  have := held_call (X := True) (ops := #[]) (Q := Q) (hw _) he h
  rwa [if_pos (hw _)] at this
theorem free_load {α : Type} {f : α → Value} {lv : List α} {o : Oper} {a : Act} {w : World} {K : Act → World → Prop} {ty : TypeId} (T : AggT P ty lv.length) (x : Operand) (ho : o.op = .load ty x) (b off : Nat) (hx : a.eval x = .pointer (some ⟨b, off, none⟩)) (h : At f w b off lv)
    {C : Array Value} (hC : C = (lv.map f).toArray) (hk : K (a.put o.dst (.agg C)) w) : o.wp P a w K Q := by
  subst hC
  refine free_value ?_ hk
  unfold execOp
  simp only [ho, hx, Instr.loadAt, Instr.sureAddr, Sem.run_bind, Sem.run_pure, Result.andThen_ok, run_load_agg T h]
structure FreeInv (D : List Nat) (Φ : Nat → Value → World → Prop) (n : Nat) (a0 : Act) (s : Array Bool) (a : Act) (w : World) : Prop where
  df : a.defers = a0.defers
  sz : a.tmps.size = a0.tmps.size
  old : ∀ k, k ∉ D → a.tmps.getD k undef = a0.tmps.getD k undef
  got : ∀ i, i < n → s.getD i false = true → Φ i (a.tmps.getD (D.getD i 0) undef) w
theorem headsH_free {R : World → World → Prop} (htr : ∀ a b c, R a b → R b c → R a c) (hB : freeB l n D = true) (hsz : (D.all fun d => decide (d < a0.tmps.size)) = true)
    (stab : ∀ i v w w', Φ i v w → R w w' → Φ i v w')
    (step : ∀ (i : Nat) (o : Oper), i < n → l[i]? = some o → ∀ (a : Act) (w : World), (∀ k, k ∉ D → a.tmps.getD k undef = a0.tmps.getD k undef) → (∀ j, depB o j = true → Φ j (a.tmps.getD (D.getD j 0) undef) w) → R w0 w →
      o.wp P a w (fun a' w' => ∃ v, a' = a.put o.dst v ∧ Φ i v w' ∧ R w w') Q)
    (fin : ∀ (vs : List Value) (w : World), vs.length = n → (∀ i, i < n → Φ i (vs.getD i undef) w) → R w0 w → wpList P l.toArray Q (l.drop n) { a0 with tmps := setAll a0.tmps D vs } w) :
    ∀ (f : Nat) (U : List Nat) (s : Array Bool) (a : Act) (w : World), U.length = f → U.Nodup → (∀ i, i ∈ U ↔ i < n ∧ s.getD i true = false) → HeadInv .any l.toArray n s → FreeInv D Φ n a0 s a w → R w0 w →
      HeadsH P l.toArray Q (fun w => R w0 w) n (fun s' a' w' => Region.seqB .any l.toArray (l.length - n) n s' = true ∧ wpList P l.toArray Q (l.drop n) a' w') f s a w := by
  simp only [freeB, Bool.and_eq_true, decide_eq_true_eq, List.all_eq_true, List.mem_range] at hB hsz
  obtain ⟨⟨⟨⟨⟨hT, hD⟩, hG⟩, hE⟩, hN⟩, hSeq⟩ := hB
  have hT' := hT
  simp only [tailB, Bool.and_eq_true, decide_eq_true_eq] at hT'
  have hnl : n < l.length := by simpa using hT'.2
  have hDl : D.length = n := by
    have := congrArg List.length hD
    simpa [Nat.min_eq_left (Nat.le_of_lt hnl)] using this.symm
  have hdst : ∀ i o, i < n → l[i]? = some o → o.dst = some (D.getD i 0) := by
    intro i o hi ho
    have h1 : ((l.take n).map (·.dst))[i]? = some o.dst := by rw [List.getElem?_map, List.getElem?_take_of_lt hi, ho]; rfl
    rw [hD, List.getElem?_map] at h1
    rw [List.getD_eq_getElem?_getD]
    cases hd : D[i]? with
    | none => rw [hd] at h1; cases h1
    | some d => rw [hd] at h1; simp only [Option.map_some, Option.some.injEq] at h1; rw [← h1]; rfl
  have hmem : ∀ i, i < n → D.getD i 0 ∈ D := fun i hi => by
    rw [List.getD_eq_getElem?_getD, List.getElem?_eq_getElem (by omega)]
    exact List.getElem_mem _
  have hinj : ∀ i j, i < n → j < n → D.getD i 0 = D.getD j 0 → i = j := fun i j hi hj h => by
    rw [List.getD_eq_getElem?_getD, List.getD_eq_getElem?_getD, List.getElem?_eq_getElem (by omega), List.getElem?_eq_getElem (by omega)] at h
    rcases Nat.lt_trichotomy i j with hlt | he | hlt
    · exact absurd h (List.pairwise_iff_getElem.1 hN i j (by omega) (by omega) hlt)
    · exact he
    · exact absurd h.symm (List.pairwise_iff_getElem.1 hN j i (by omega) (by omega) hlt)
  intro f
  induction f with
  | zero =>
    intro U s a w hU hUn hUm inv hI hS
    have hU0 : U = [] := List.length_eq_zero_iff.1 hU
    subst hU0
    have hs : s = (List.replicate n true ++ List.replicate (l.length - n) false).toArray := by
      have hss := inv.size
      simp only [List.size_toArray] at hss
      apply Array.ext
      · simp [hss]; omega
      · intro i h1 h2
        have hil : i < l.length := by omega
        by_cases hin : i < n
        · have h3 : ¬ (s.getD i true = false) := fun h => by have := (hUm i).2 ⟨hin, h⟩; cases this
          have h4 : s.getD i true = s[i] := by simp [Array.getD, h1]
          rw [h4] at h3
          have h5 : s[i] = true := by simpa using h3
          rw [h5]
          simp [List.getElem_append, hin]
        · have h3 := inv.tail i (by omega) (by simpa using hil)
          have h4 : s.getD i true = s[i] := by simp [Array.getD, h1]
          rw [h4] at h3
          rw [h3]
          simp [List.getElem_append, hin]
    refine ⟨by rw [hs]; exact hSeq, ?_⟩
    have hgot : ∀ i, i < n → Φ i (a.tmps.getD (D.getD i 0) undef) w := fun i hi => hI.got i hi (by
      rw [hs]
      simp only [Array.getD_eq_getD_getElem?, List.getElem?_toArray]
      rw [List.getElem?_append_left (by simpa using hi), List.getElem?_replicate, if_pos hi]
      rfl)
    have hvl : (D.map fun d => a.tmps.getD d undef).length = n := by simp [hDl]
    have hvg : ∀ i, i < n → (D.map fun d => a.tmps.getD d undef).getD i undef = a.tmps.getD (D.getD i 0) undef := fun i hi => by
      rw [List.getD_eq_getElem?_getD, List.getElem?_map, List.getD_eq_getElem?_getD, List.getElem?_eq_getElem (by omega)]
      rfl
    have ha : a = { a0 with tmps := setAll a0.tmps D (D.map fun d => a.tmps.getD d undef) } := by
      obtain ⟨t, df⟩ := a
      have h1 := hI.df
      have h2 := hI.sz
      have h3 := hI.old
      simp only at h1 h2 h3
      subst h1
      congr 1
      have hga := getD_setAll D (D.map fun d => t.getD d undef) a0.tmps
      apply Array.ext
      · rw [setAll_size, h2]
      · intro k hk1 hk2
        have e1 : t.getD k undef = t[k] := by simp [Array.getD, hk1]
        have e2 : (setAll a0.tmps D (D.map fun d => t.getD d undef)).getD k undef = (setAll a0.tmps D (D.map fun d => t.getD d undef))[k] := by unfold Array.getD; exact dif_pos hk2
        rw [← e1, ← e2]
        by_cases hkD : k ∈ D
        · obtain ⟨i, hi, rfl⟩ := List.getElem_of_mem hkD
          have h4 := (hga 0 hN (by simp) hsz).2 i hi
          rw [List.getD_eq_getElem?_getD, List.getElem?_eq_getElem hi, Option.getD_some] at h4
          rw [h4, List.getD_eq_getElem?_getD, List.getElem?_map, List.getElem?_eq_getElem hi]
          rfl
        · rw [(hga k hN (by simp) hsz).1 hkD, h3 k hkD]
    rw [ha]
    exact fin _ w hvl (fun i hi => by rw [hvg i hi]; exact hgot i hi) hS
  | succ f ih =>
    intro U s a w hU hUn hUm inv hI hS
    have hex : ∀ (m i : Nat), i ≤ m → i < n → s.getD i true = false → ∃ j, j ∈ Region.ready .any l.toArray s := by
      intro m
      induction m with
      | zero =>
        intro i him hin hun
        obtain rfl : i = 0 := by omega
        refine ⟨0, mem_ready.2 ⟨hun, l[0], by simp, fun e he hb => ?_⟩⟩
        have := hE 0 hin
        rw [List.getElem?_eq_getElem (by omega)] at this
        simp only [Option.map_some, Option.getD_some, Array.all_eq_true_iff_forall_mem] at this
        have h2 := this e he
        simp [hb] at h2
      | succ m ihm =>
        intro i him hin hun
        by_cases hall : ∀ e ∈ (l[i]'(by omega)).after, Region.binds .any e = true → s.getD e.on false = true
        · exact ⟨i, mem_ready.2 ⟨hun, l[i]'(by omega), by simp, hall⟩⟩
        · obtain ⟨e, he⟩ := Classical.not_forall.1 hall
          obtain ⟨h1, he⟩ := Classical.not_imp.1 he
          obtain ⟨h2, h3⟩ := Classical.not_imp.1 he
          have := hE i hin
          rw [List.getElem?_eq_getElem (by omega)] at this
          simp only [Option.map_some, Option.getD_some, Array.all_eq_true_iff_forall_mem] at this
          have h4 := this e h1
          rw [h2] at h4
          simp only [Bool.not_true, Bool.false_or, decide_eq_true_eq] at h4
          have h5 : e.on < s.size := by rw [inv.size]; simp; omega
          refine ihm e.on (by omega) (by omega) ?_
          have h6 : s.getD e.on false = false := by cases hh : s.getD e.on false; rfl; exact absurd hh h3
          exact getD_in h5 h6
    obtain ⟨i1, hi1⟩ : ∃ i1, i1 ∈ U := by cases U with
      | nil => cases hU
      | cons x U => exact ⟨x, List.mem_cons_self⟩
    have hi1' := (hUm i1).1 hi1
    obtain ⟨j0, hj0⟩ := hex i1 i1 (Nat.le_refl _) hi1'.1 hi1'.2
    refine ⟨List.ne_nil_of_mem hj0, fun i hi => ?_⟩
    have hin : i < n := Nat.lt_of_not_le fun h => tail_waits hT'.1.1.2 hT'.1.2 (by simpa using hnl) inv _ i1 rfl hi1'.1 hi1'.2 i h hi
    refine ⟨hin, ?_⟩
    obtain ⟨hun, o, ho, hall⟩ := mem_ready.1 hi
    have hol : l[i]? = some o := by simpa using ho
    have hgd : o.guard = none := by
      have h := hG o (by rw [List.mem_iff_getElem?]; exact ⟨i, by rw [List.getElem?_take_of_lt hin]; exact hol⟩)
      cases hh : o.guard with
      | none => rfl
      | some g => rw [hh] at h; cases h
    have hiU : i ∈ U := (hUm i).2 ⟨hin, hun⟩
    refine wpOp_step ho fun K' hK => ?_
    rw [if_pos (by unfold Region.wanted; rw [hgd])]
    have hst := step i o hin hol a w hI.old (fun j hj => by
      simp only [depB, Array.any_eq_true, Bool.and_eq_true, beq_iff_eq] at hj
      obtain ⟨k, hk, he, hb⟩ := hj
      have hjs := hall _ (Array.getElem_mem hk) hb
      rw [he] at hjs
      have hEi := hE i hin
      rw [hol] at hEi
      simp only [Option.map_some, Option.getD_some, Array.all_eq_true_iff_forall_mem] at hEi
      have h4 := hEi _ (Array.getElem_mem hk)
      rw [hb, he] at h4
      simp only [Bool.not_true, Bool.false_or, decide_eq_true_eq] at h4
      exact hI.got j (by omega) hjs) hS
    refine Oper.wp_mono (fun a' w' h => ?_) hst
    obtain ⟨v, rfl, hv, hb⟩ := h
    have hod := hdst i o hin hol
    have hput : a.put o.dst v = { a with tmps := a.tmps.setIfInBounds (D.getD i 0) v } := by rw [hod]; rfl
    rw [hput]
    have hS' := htr _ _ _ hS hb
    refine hK _ _ ⟨hS', ih (U.erase i) _ _ _ (by rw [List.length_erase_of_mem hiU, hU]; rfl) (hUn.erase i) ?_ (inv.set hi hin) ⟨hI.df, by simp [hI.sz], ?_, ?_⟩ hS'⟩
    · intro j
      rw [hUn.mem_erase_iff, hUm j]
      by_cases hji : j = i
      · subst hji
        have hsz2 : j < s.size := by rw [inv.size]; simp; omega
        simp [Array.getD, hsz2]
      · rw [getD_set_ne true (by omega)]
        simp [hji]
    · intro k hk
      rw [getD_set_at, if_neg (fun e => hk (by rw [← e.1]; exact hmem i hin))]
      exact hI.old k hk
    · intro j hj hjs
      by_cases hji : j = i
      · subst hji
        rw [getD_set_at, if_pos ⟨rfl, by rw [hI.sz]; exact hsz _ (hmem j hin)⟩]
        exact hv
      · rw [getD_set_at, if_neg (fun e => hji (hinj _ _ hj hin e.1.symm))]
        rw [getD_set_ne false (by omega)] at hjs
        exact stab j _ w w' (hI.got j hj hjs) hb
theorem region_free {id : Nat} (R : World → World → Prop) (hR0 : R w0 w0.drew) (htr : ∀ a b c, R a b → R b c → R a c) (n : Nat) (D : List Nat) (Φ : Nat → Value → World → Prop) (hm : P.follows .mixedOrders = true) (hB : freeB l n D = true) (hsz : (D.all fun d => decide (d < a0.tmps.size)) = true)
    (stab : ∀ i v w w', Φ i v w → R w w' → Φ i v w')
    (step : ∀ (i : Nat) (o : Oper), i < n → l[i]? = some o → ∀ (a : Act) (w : World), (∀ k, k ∉ D → a.tmps.getD k undef = a0.tmps.getD k undef) → (∀ j, depB o j = true → Φ j (a.tmps.getD (D.getD j 0) undef) w) → R w0 w →
      o.wp P a w (fun a' w' => ∃ v, a' = a.put o.dst v ∧ Φ i v w' ∧ R w w') Q)
    (fin : ∀ (vs : List Value) (w : World), vs.length = n → (∀ i, i < n → Φ i (vs.getD i undef) w) → R w0 w → wpList P l.toArray Q (l.drop n) { a0 with tmps := setAll a0.tmps D vs } w) :
    (Code.region id l.toArray true).wp P Q a0 w0 := by
  have hT : tailB l.toArray n = true := by
    simp only [freeB, Bool.and_eq_true] at hB
    exact hB.1.1.1.1.1
  refine region_headsT (S := fun w => R w0 w) n hm hT hR0 fun hS inv => ?_
  have hnl : n < l.length := by
    simp only [tailB, Bool.and_eq_true, decide_eq_true_eq] at hT
    simpa using hT.2
  refine headsH_free htr hB hsz stab step fin n (List.range n) _ a0 _ (by simp) List.nodup_range (fun i => ?_) inv ⟨rfl, rfl, fun _ _ => rfl, fun i hi h => ?_⟩ hS
  · rw [List.mem_range]
    refine ⟨fun h => ⟨h, ?_⟩, fun h => h.1⟩
    have : i < (Array.replicate l.length false).size := by simp; omega
    simp [Array.getD]; omega
  · rw [getD_replicate_false] at h; cases h
/-- the operations wait for earlier ones alone -/
def backB (l : List Oper) (n : Nat) : Bool := (List.range n).all fun i => ((l[i]?).map fun o => o.after.all fun e => !Region.binds .any e || decide (e.on < i)).getD false
theorem backB_spec (hB : backB l n = true) (i : Nat) (o : Oper) (hi : i < n) (ho : l[i]? = some o) (j : Nat) (hj : depB o j = true) : j < i := by
  simp only [backB, List.all_eq_true, List.mem_range] at hB
  have hEi := hB i hi
  rw [ho] at hEi
  simp only [Option.map_some, Option.getD_some, Array.all_eq_true_iff_forall_mem] at hEi
  simp only [depB, Array.any_eq_true, Bool.and_eq_true, beq_iff_eq] at hj
  obtain ⟨k, hk, he, hb⟩ := hj
  have h4 := hEi _ (Array.getElem_mem hk)
  rw [hb, he] at h4
  simpa using h4
/-- the same for a region that keeps its order -/
theorem region_free_seq {id : Nat} (R : World → World → Prop) (hR0 : R w0 w0) (htr : ∀ a b c, R a b → R b c → R a c) (n : Nat) (D : List Nat) (Φ : Nat → Value → World → Prop)
    (hnl : n ≤ l.length) (hD : (l.take n).map (·.dst) = D.map some) (hG : ∀ o ∈ l.take n, o.guard = none) (hE' : backB l n = true) (hN : D.Nodup) (hsz : (D.all fun d => decide (d < a0.tmps.size)) = true)
    (stab : ∀ i v w w', Φ i v w → R w w' → Φ i v w')
    (step : ∀ (i : Nat) (o : Oper), i < n → l[i]? = some o → ∀ (a : Act) (w : World), (∀ k, k ∉ D → a.tmps.getD k undef = a0.tmps.getD k undef) → (∀ j, depB o j = true → Φ j (a.tmps.getD (D.getD j 0) undef) w) → R w0 w →
      o.wp P a w (fun a' w' => ∃ v, a' = a.put o.dst v ∧ Φ i v w' ∧ R w w') Q)
    (fin : ∀ (vs : List Value) (w : World), vs.length = n → (∀ i, i < n → Φ i (vs.getD i undef) w) → R w0 w → wpList P l.toArray Q (l.drop n) { a0 with tmps := setAll a0.tmps D vs } w) :
    (Code.region id l.toArray false).wp P Q a0 w0 := by
  have hE := backB_spec hE'
  simp only [List.all_eq_true, decide_eq_true_eq] at hsz
  have hDl : D.length = n := by
    have := congrArg List.length hD
    simpa [Nat.min_eq_left hnl] using this.symm
  have hdst : ∀ i o, i < n → l[i]? = some o → o.dst = some (D.getD i 0) := by
    intro i o hi ho
    have h1 : ((l.take n).map (·.dst))[i]? = some o.dst := by rw [List.getElem?_map, List.getElem?_take_of_lt hi, ho]; rfl
    rw [hD, List.getElem?_map] at h1
    rw [List.getD_eq_getElem?_getD]
    cases hd : D[i]? with
    | none => rw [hd] at h1; cases h1
    | some d => rw [hd] at h1; simp only [Option.map_some, Option.some.injEq] at h1; rw [← h1]; rfl
  have hgd : ∀ i (hi : i < n), D.getD i 0 = D[i]'(by omega) := fun i hi => by rw [List.getD_eq_getElem?_getD, List.getElem?_eq_getElem (by omega)]; rfl
  have hinj : ∀ i j, i < n → j < n → D.getD i 0 = D.getD j 0 → i = j := fun i j hi hj h => by
    rw [hgd i hi, hgd j hj] at h
    rcases Nat.lt_trichotomy i j with hlt | he | hlt
    · exact absurd h (List.pairwise_iff_getElem.1 hN i j (by omega) (by omega) hlt)
    · exact he
    · exact absurd h.symm (List.pairwise_iff_getElem.1 hN j i (by omega) (by omega) hlt)
  have hvl : ∀ a : Act, (D.map fun d => a.tmps.getD d undef).length = n := fun a => by simp [hDl]
  have hvg : ∀ (a : Act) i, i < n → (D.map fun d => a.tmps.getD d undef).getD i undef = a.tmps.getD (D.getD i 0) undef := fun a i hi => by
    rw [List.getD_eq_getElem?_getD, List.getElem?_map, List.getElem?_eq_getElem (by omega), hgd i hi]
    rfl
  have hput : ∀ i, i < n → D.getD i 0 ∈ D := fun i hi => by rw [hgd i hi]; exact List.getElem_mem _
  refine wp_region_lit ?_
  suffices H : ∀ (m i : Nat) (a : Act) (w : World), i + m = n → a.defers = a0.defers → a.tmps.size = a0.tmps.size → (∀ k, k ∉ D → a.tmps.getD k undef = a0.tmps.getD k undef) → (∀ j, j < i → Φ j (a.tmps.getD (D.getD j 0) undef) w) → R w0 w → wpList P l.toArray Q (l.drop i) a w by
    exact H n 0 a0 w0 (by omega) rfl rfl (fun _ _ => rfl) (fun j hj => absurd hj (Nat.not_lt_zero _)) hR0
  intro m
  induction m with
  | zero =>
    intro i a w him h1 h2 h3 hg hR
    obtain rfl : i = n := by omega
    have ha : a = { a0 with tmps := setAll a0.tmps D (D.map fun d => a.tmps.getD d undef) } := by
      obtain ⟨t, df⟩ := a
      simp only at h1 h2 h3
      subst h1
      congr 1
      have hga := getD_setAll D (D.map fun d => t.getD d undef) a0.tmps
      apply Array.ext
      · rw [setAll_size, h2]
      · intro k hk1 hk2
        have e1 : t.getD k undef = t[k] := by simp [Array.getD, hk1]
        have e2 : (setAll a0.tmps D (D.map fun d => t.getD d undef)).getD k undef = (setAll a0.tmps D (D.map fun d => t.getD d undef))[k] := by unfold Array.getD; exact dif_pos hk2
        rw [← e1, ← e2]
        by_cases hkD : k ∈ D
        · obtain ⟨j, hj, rfl⟩ := List.getElem_of_mem hkD
          have h4 := (hga 0 hN (by simp) hsz).2 j hj
          rw [List.getD_eq_getElem?_getD, List.getElem?_eq_getElem hj, Option.getD_some] at h4
          rw [h4, List.getD_eq_getElem?_getD, List.getElem?_map, List.getElem?_eq_getElem hj]
          rfl
        · rw [(hga k hN (by simp) hsz).1 hkD, h3 k hkD]
    rw [ha]
    exact fin _ w (hvl a) (fun j hj => by rw [hvg a j hj]; exact hg j hj) hR
  | succ m ih =>
    intro i a w him h1 h2 h3 hg hR
    have hin : i < n := by omega
    have hil : i < l.length := by omega
    rw [List.drop_eq_getElem_cons hil]
    have hol : l[i]? = some l[i] := List.getElem?_eq_getElem hil
    refine wpList_plain (hG _ (by rw [List.mem_iff_getElem?]; exact ⟨i, by rw [List.getElem?_take_of_lt hin]; exact hol⟩)) fun K hK => ?_
    refine Oper.wp_mono (fun a' w' h => ?_) (step i l[i] hin hol a w h3 (fun j hj => hg j (hE i _ hin hol j hj)) hR)
    obtain ⟨v, rfl, hv, hb⟩ := h
    have hod := hdst i _ hin hol
    have hp : a.put l[i].dst v = { a with tmps := a.tmps.setIfInBounds (D.getD i 0) v } := by rw [hod]; rfl
    rw [hp]
    refine hK _ _ (ih (i + 1) _ _ (by omega) h1 (by simp [h2]) (fun k hk => ?_) (fun j hj => ?_) (htr _ _ _ hR hb))
    · rw [getD_set_at, if_neg (fun e => hk (by rw [← e.1]; exact hput i hin))]
      exact h3 k hk
    · by_cases hji : j = i
      · rw [hji, getD_set_at, if_pos ⟨rfl, by rw [h2]; exact hsz _ (hput i hin)⟩]
        exact hv
      · have hjn : j < n := by omega
        rw [getD_set_at, if_neg (fun e => hji (hinj j i hjn hin e.1.symm))]
        exact stab j _ w w' (hg j (by omega)) hb
end
end Go.Proofs.YtllomcmhkocdfaaGreatDoor.Mem
