/- A world in which some blocks have been written; arrays of bools compared. -/
import Derived.Stop.BytesEq
import Derived.Test.YtllomcmhkocdfaaGreatDoorMBound
import Derived.Test.YtllomcmhkocdfaaGreatDoorMCells
import Derived.Test.YtllomcmhkocdfaaGreatDoorMHeldD
import Derived.Deep.DeepCutAuto
namespace Go.Proofs.YtllomcmhkocdfaaGreatDoor
open Go Go.RowKit Mem
set_option maxRecDepth 100000

/-- w' is w with new blocks and writes to the blocks of E alone -/
structure Upd (E : Nat → Prop) (w w' : World) : Prop where
  os : w'.os = w.os
  tape : w'.tape = w.tape
  output : w'.output = w.output
  size : w.heap.size ≤ w'.heap.size
  block : ∀ k, k < w.heap.size → ¬ E k → w'.heap[k]? = w.heap[k]?
section
variable {E E' : Nat → Prop} {w w' w2 : World}
theorem Upd.refl (E : Nat → Prop) (w : World) : Upd E w w := ⟨rfl, rfl, rfl, Nat.le_refl _, fun _ _ _ => rfl⟩
theorem Upd.trans (h : Upd E w w') (h2 : Upd E' w' w2) (he : ∀ k, k < w.heap.size → E' k → E k) : Upd E w w2 :=
  ⟨h2.os.trans h.os, h2.tape.trans h.tape, h2.output.trans h.output, Nat.le_trans h.size h2.size, fun k hk hn => (h2.block k (Nat.lt_of_lt_of_le hk h.size) (fun e => hn (he k hk e))).trans (h.block k hk hn)⟩
theorem Upd.below (h : Upd E w w') {K : Nat} (hb : Below K w' w2) (hK : w.heap.size ≤ K) : Upd E w w2 :=
  ⟨hb.os.trans h.os, hb.tape.trans h.tape, hb.output.trans h.output, Nat.le_trans h.size hb.size, fun k hk hn => (hb.block k (by omega)).trans (h.block k hk hn)⟩
theorem Upd.of_below (E : Nat → Prop) {K : Nat} (hb : Below K w w') (hK : w.heap.size ≤ K) : Upd E w w' := (Upd.refl E w).below hb hK
theorem Upd.drew (h : Upd E w w') : Upd E w w'.drew := ⟨h.os, h.tape, h.output, h.size, h.block⟩
theorem Upd.alloc (h : Upd E w w') (o : Obj) : Upd E w (w'.alloc o) := h.below ((Below.refl w'.heap.size w').alloc (Nat.le_refl _) o) h.size
theorem Upd.set (h : Upd E w w') {b : Nat} (hb : E b ∨ w.heap.size ≤ b) (i : Nat) (v : Value) : Upd E w (w'.setCell ⟨b, i, none⟩ v) :=
  ⟨h.os, h.tape, h.output, by simpa using h.size, fun k hk hn => (Below.heap_setCell _ _ _ _ (by
    rintro rfl
    rcases hb with hb | hb
    · exact hn hb
    · exact absurd hk (Nat.not_lt.2 hb))).trans (h.block k hk hn)⟩
theorem Upd.grown (h : Upd E w w') {r : Option Nat} (hg : w'.grownBy w2 r) (hr : ∀ b, r = some b → E b ∨ w.heap.size ≤ b) : Upd E w w2 :=
  ⟨hg.os.trans h.os, hg.tape.trans h.tape, hg.output.trans h.output, Nat.le_trans h.size hg.size, fun k hk hn => (hg.block k (Nat.lt_of_lt_of_le hk h.size) (fun e => by
    rcases hr k e.symm with hb | hb
    · exact hn hb
    · omega)).trans (h.block k hk hn)⟩
theorem Upd.toBelow (h : Upd E w w') {K : Nat} (hK : K ≤ w.heap.size) (hE : ∀ k, k < K → ¬ E k) : Below K w w' :=
  ⟨h.os, h.tape, h.output, h.size, fun k hk => h.block k (by omega) (hE k hk)⟩
theorem Upd.cell (h : Upd E w w') {b i : Nat} (hb : b < w.heap.size) (hn : ¬ E b) : w'.cell? ⟨b, i, none⟩ = w.cell? ⟨b, i, none⟩ := World.cell?_of_block (a := ⟨b, i, none⟩) (h.block b hb hn)
theorem _root_.Go.Proofs.YtllomcmhkocdfaaGreatDoor.Mem.Row.upd {α : Type} {f : α → Value} {b : Nat} {t : TypeId} {l : List α} (h : Row f w b t l) (hu : Upd E w w') (hn : ¬ E b) : Row f w' b t l := (hu.block b h.lt hn).trans h
end

theorem all_range_bool : ∀ (xs ys : List Bool), xs.length = ys.length → ((List.range xs.length).all fun i => xs.getD i false == ys.getD i false) = (xs == ys)
  | [], [], _ => rfl
  | x :: xs, y :: ys, h => by
    have ih := all_range_bool xs ys (by simpa using h)
    rw [List.length_cons, List.range_succ_eq_map, List.all_cons, List.all_map]
    simp only [List.getD_cons_zero, Function.comp_def, List.getD_cons_succ, ih]
    simp [List.cons_beq_cons]
  | [], _ :: _, h => by simp at h
  | _ :: _, [], h => by simp at h
theorem run_equalIn_bools {P : Program} (w : World) (d : Nat) (t e : TypeId) (n : Nat) (ht : P.underlying t = some (.array n e)) (he : P.underlying e = some .bool) (hsz : ∀ w, (sizeOf e).run P w = .ok 1 w)
    (xs ys : List Bool) (hx : xs.length = n) (hy : ys.length = n) :
    (Op.equalIn (d + 2) t (.agg (xs.map Value.bool).toArray) (.agg (ys.map Value.bool).toArray)).run P w = .ok (xs == ys) w := by
  rw [← all_range_bool xs ys (hx.trans hy.symm), hx, List.range_eq_range', Op.equalIn]
  simp only [Sem.run_bind, run_underlying ht, Result.andThen_ok, hsz, Std.Legacy.Range.forIn_eq_forIn_range', Std.Legacy.Range.size, Nat.sub_zero, Nat.add_sub_cancel, Nat.div_one]
  have hl : ∀ i ∈ List.range' 0 n 1, i < n := fun i hi => by simpa using (List.mem_range'_1.1 hi).2
  generalize List.range' 0 n 1 = l at hl ⊢
  induction l with
  | nil => simp
  | cons i l ih =>
    have hi : i < n := hl i (by simp)
    have px : (part e (xs.map Value.bool).toArray (i * 1)).run P w = .ok (.bool (xs.getD i false)) w := by
      simp [part, isAgg, run_underlying he, List.getD, List.getElem?_eq_getElem (show i < xs.length by omega)]
    have py : (part e (ys.map Value.bool).toArray (i * 1)).run P w = .ok (.bool (ys.getD i false)) w := by
      simp [part, isAgg, run_underlying he, List.getD, List.getElem?_eq_getElem (show i < ys.length by omega)]
    have pe : (Op.equalIn (d + 1) e (.bool (xs.getD i false)) (.bool (ys.getD i false))).run P w = .ok (xs.getD i false == ys.getD i false) w := by
      simp [Op.equalIn, run_underlying he]
    simp only [List.forIn_cons, Sem.run_bind, px, py, pe, Result.andThen_ok, List.all_cons]
    cases hb : (xs.getD i false == ys.getD i false)
    · simp
    · simp only [Bool.not_true, Bool.false_eq_true, if_false, Sem.run_pure, Result.andThen_ok, Bool.true_and]
      exact ih fun j hj => hl j (by simp [hj])
/-- arrays of bools compared -/
theorem run_neq_vars (w : World) (xs ys : List Bool) (hx : xs.length = 16) (hy : ys.length = 16) :
    (binOp .neq 89 (.agg (xs.map Value.bool).toArray) (.agg (ys.map Value.bool).toArray)).run Tryz.prog w = .ok (.bool (xs != ys)) w := by
  have h := run_equalIn_bools (P := Tryz.prog) w 9998 89 4 16 Tryz.underlying89 Tryz.underlying4 (fun w => by kernel_rfl) xs ys hx hy
  rw [run_neq_struct, h]
  rfl

/-- the places of a walk -/
structure WEnv where
  w0 : World
  ss : Sl
  bs : Sl
  pb : Nat
  rb : Nat
  qb : Nat
  wb : Nat
  bb : Nat
  tb : Nat
/-- the blocks that a walk writes: its report, and what tells whether a loop is left -/
def WEnv.E (V : WEnv) (lp : Option Nat) (k : Nat) : Prop := k = V.rb ∨ k = V.qb ∨ lp = some k
/-- what stays -/
structure WFix (V : WEnv) (S : List St) (B : List (List Int)) (X : World) : Prop where
  below : Below V.w0.heap.size V.w0 X
  pg : PgM V.w0 V.ss V.bs S B
  box : PgBox X V.pb V.ss V.bs
  cw : X.cell? ⟨V.wb, 0, none⟩ = some (.func (.func 46) #[] #[.pointer (some ⟨V.rb, 0, none⟩)])
  cb : X.cell? ⟨V.bb, 0, none⟩ = some (.func (.func 49) #[] #[.pointer (some ⟨V.pb, 0, none⟩), .pointer (some ⟨V.tb, 0, none⟩)])
  ct : X.cell? ⟨V.tb, 0, none⟩ = some (.func (.func 47) #[] #[.pointer (some ⟨V.pb, 0, none⟩), .pointer (some ⟨V.rb, 0, none⟩), .pointer (some ⟨V.wb, 0, none⟩), .pointer (some ⟨V.bb, 0, none⟩)])
  lt : V.w0.heap.size ≤ V.pb ∧ V.w0.heap.size ≤ V.rb ∧ V.w0.heap.size ≤ V.qb ∧ V.w0.heap.size ≤ V.wb ∧ V.w0.heap.size ≤ V.bb ∧ V.w0.heap.size ≤ V.tb
  top : V.pb < X.heap.size ∧ V.wb < X.heap.size ∧ V.bb < X.heap.size ∧ V.tb < X.heap.size
  ne : V.rb ≠ V.qb ∧ V.pb ≠ V.rb ∧ V.pb ≠ V.qb ∧ V.wb ≠ V.rb ∧ V.wb ≠ V.qb ∧ V.bb ≠ V.rb ∧ V.bb ≠ V.qb ∧ V.tb ≠ V.rb ∧ V.tb ≠ V.qb
/-- a loop's mark lies apart -/
def LpOk (V : WEnv) (lp : Option Nat) : Prop := ∀ l, lp = some l → V.w0.heap.size ≤ l ∧ l ≠ V.pb ∧ l ≠ V.rb ∧ l ≠ V.qb ∧ l ≠ V.wb ∧ l ≠ V.bb ∧ l ≠ V.tb
/-- the report and the mark -/
structure WVar (V : WEnv) (S : List St) (X : World) (lp : Option Nat) (lf : Option Bool) (rp : Rp) : Prop where
  rep : Row oV X V.rb 86 [⟨.slice (some ⟨V.qb, 0, none⟩) S.length S.length, rfl⟩, oi rp.pos, oi rp.err]
  reach : Row Value.bool X V.qb 4 rp.reach
  len : rp.reach.length = S.length
  left : (lp = none ∧ lf = none) ∨ ∃ l b, lp = some l ∧ lf = some b ∧ Row Value.bool X l 4 [b]
def lpV (lp : Option Nat) : Value := .pointer (lp.map fun b => ⟨b, 0, none⟩)
theorem WFix.upd {V : WEnv} {S : List St} {B : List (List Int)} {X Y : World} {lp : Option Nat} (h : WFix V S B X) (hu : Upd (V.E lp) X Y) (hl : LpOk V lp) : WFix V S B Y := by
  have hn : ∀ k, k = V.pb ∨ k = V.wb ∨ k = V.bb ∨ k = V.tb → ¬ V.E lp k := by
    intro k hk he
    have n := h.ne
    rcases he with he | he | he
    · omega
    · omega
    · have := hl k he; omega
  have hE : ∀ k, k < V.w0.heap.size → ¬ V.E lp k := by
    intro k hk he
    have := h.lt
    rcases he with he | he | he
    · omega
    · omega
    · have := hl k he; omega
  have ht := h.top
  exact ⟨h.below.trans (hu.toBelow h.below.size hE), h.pg, (hu.block _ ht.1 (hn _ (.inl rfl))).trans h.box, (hu.cell ht.2.1 (hn _ (.inr (.inl rfl)))).trans h.cw, (hu.cell ht.2.2.1 (hn _ (.inr (.inr (.inl rfl))))).trans h.cb,
    (hu.cell ht.2.2.2 (hn _ (.inr (.inr (.inr rfl))))).trans h.ct, h.lt, ⟨Nat.lt_of_lt_of_le ht.1 hu.size, Nat.lt_of_lt_of_le ht.2.1 hu.size, Nat.lt_of_lt_of_le ht.2.2.1 hu.size, Nat.lt_of_lt_of_le ht.2.2.2 hu.size⟩, h.ne⟩
theorem WFix.below' {V : WEnv} {S : List St} {B : List (List Int)} {X Y : World} (h : WFix V S B X) (hb : Below X.heap.size X Y) : WFix V S B Y := h.upd (lp := none) (Upd.of_below _ hb (Nat.le_refl _)) (fun l e => by cases e)
theorem WVar.below {V : WEnv} {S : List St} {X Y : World} {lp : Option Nat} {lf : Option Bool} {rp : Rp} (h : WVar V S X lp lf rp) (hb : Below X.heap.size X Y) : WVar V S Y lp lf rp := by
  refine ⟨h.rep.below hb h.rep.lt, h.reach.below hb h.reach.lt, h.len, ?_⟩
  rcases h.left with h1 | ⟨l, b, h1, h2, h3⟩
  · exact .inl h1
  · exact .inr ⟨l, b, h1, h2, h3.below hb h3.lt⟩
end Go.Proofs.YtllomcmhkocdfaaGreatDoor

/- Places: built, joined; a statement found wrong. -/
namespace Go.Proofs.YtllomcmhkocdfaaGreatDoor
open Go Go.RowKit Mem
set_option maxRecDepth 100000

theorem run_build_place {a : Act} {o : Oper} (p q : Operand) (ho : o.op = .build 105 #[(0, p), (1, q)]) (x : Bool) (L : List Bool) (hL : L.length = 16) (hp : a.eval p = .bool x) {C : Array Value} (hC : C = (L.map Value.bool).toArray) (hq : a.eval q = .agg C) (w : World) :
    (execOp a.eval o).run Tryz.prog w = .ok (.value (.agg (((x :: L).map Value.bool).toArray))) w := by
  subst hC
  match L, hL with
  | [b0, b1, b2, b3, b4, b5, b6, b7, b8, b9, b10, b11, b12, b13, b14, b15], _ =>
    unfold execOp
    simp only [ho, List.map_toArray, List.map_cons, List.map_nil, hp, hq]
    have h : ∀ x b0 b1 b2 b3 b4 b5 b6 b7 b8 b9 b10 b11 b12 b13 b14 b15 : Bool, ∀ w, (Instr.build 105 #[(0, .bool x), (1, .agg #[.bool b0, .bool b1, .bool b2, .bool b3, .bool b4, .bool b5, .bool b6, .bool b7, .bool b8, .bool b9, .bool b10, .bool b11, .bool b12, .bool b13, .bool b14, .bool b15])]).run Tryz.prog w = .ok (.agg #[.bool x, .bool b0, .bool b1, .bool b2, .bool b3, .bool b4, .bool b5, .bool b6, .bool b7, .bool b8, .bool b9, .bool b10, .bool b11, .bool b12, .bool b13, .bool b14, .bool b15]) w := fun _ _ _ _ _ _ _ _ _ _ _ _ _ _ _ _ _ _ => by first | rfl | kernel_rfl
    simp [h]
theorem build_place {ops : Array Oper} {rest : List Oper} {o : Oper} {a : Act} {Q : Exit → Act → World → Prop} {w : World} (p q : Operand) (hw : Region.wanted o (yielded ops a.tmps) = true) (ho : o.op = .build 105 #[(0, p), (1, q)]) (x : Bool) (L : List Bool) (hL : L.length = 16)
    (hp : a.eval p = .bool x) {C : Array Value} (hC : C = (L.map Value.bool).toArray) (hq : a.eval q = .agg C) {D : Array Value} (hD : D = ((x :: L).map Value.bool).toArray) (hk : wpList Tryz.prog ops Q rest (a.put o.dst (.agg D)) w) : wpList Tryz.prog ops Q (o :: rest) a w := by
  subst hD
  exact closed_w _ hw ho (run_build_place p q ho x L hL hp hC hq w) hk
theorem exec_neq_vars {a : Act} {o : Oper} (x y : Operand) (ho : o.op = .binOp .neq 89 x y 89) (L1 L2 : List Bool) (h1 : L1.length = 16) (h2 : L2.length = 16) {C1 C2 : Array Value} (hC1 : C1 = (L1.map Value.bool).toArray) (hC2 : C2 = (L2.map Value.bool).toArray) (hx : a.eval x = .agg C1) (hy : a.eval y = .agg C2) (w : World) :
    (execOp a.eval o).run Tryz.prog w = .ok (.value (.bool (L1 != L2))) w := by
  subst hC1 hC2
  have hg : (eqGuard .neq 89 x y (.agg (L1.map Value.bool).toArray) (.agg (L2.map Value.bool).toArray)).run Tryz.prog w = .ok () w := by
    have ht : Tryz.prog.eqGuardType Tryz.prog.depth 89 = false := by kernel_rfl
    unfold eqGuard
    simp [ht]
  unfold execOp
  simp only [ho, hx, hy, Sem.run_bind, hg, Result.andThen_ok, run_neq_vars w L1 L2 h1 h2]
  rfl
theorem Pl.cs_length (p : Pl) (h : p.set.length = 16) : p.cs.length = 17 := by unfold Pl.cs; simp [h]

set_option maxHeartbeats 8000000 in
theorem rJoin (w : World) (p q : Pl) (hp : p.set.length = 16) (hq : q.set.length = 16) (C1 C2 : Array Value) (HC1 : Hid (C1 = (p.cs.map Value.bool).toArray)) (HC2 : Hid (C2 = (q.cs.map Value.bool).toArray)) :
    Calls Tryz.prog 48 #[.agg C1, .agg C2] w fun e w' => ∃ C', e = .returned (.agg C') ∧ Hid (C' = ((joinP p q).cs.map Value.bool).toArray) ∧ Below w.heap.size w w' := by
  have HL := Lib.hid (And.intro (Pl.cs_length p hp) (Pl.cs_length q hq))
  have HS := Lib.hid (And.intro hp hq)
  clear hp hq
  go_enter Tryz.func48, Tryz.ntmps48
  go_upto_region 1 with (fail)
  obtain ⟨W, hW, hR, hQ, hZ, hB⟩ : ∃ W, ((w.alloc (.cells C1 105)).alloc (.cells C2 105)).alloc (.cells zPlC 105) = W ∧ Row Value.bool W w.heap.size 105 p.cs ∧ Row Value.bool W (w.heap.size + 1) 105 q.cs ∧ Row Value.bool W (w.heap.size + 1 + 1) 105 zPl ∧ Below w.heap.size w W := by
    refine ⟨_, rfl, Row.alloc (Row.alloc (Row.new (f := Value.bool) (l := p.cs) w _ (by rw [HC1.out])) _) _, Row.alloc (heap_new' _ _ _ (by simp) |>.trans (by rw [HC2.out])) _, heap_new' _ _ _ (by simp), (((Below.refl _ _).alloc (Nat.le_refl _) _).alloc (by simp) _).alloc (by simp; omega) _⟩
  rw [hW]
  clear hW
  have hlt := hR.lt
  have c1 : W.cell? ⟨w.heap.size, 0, none⟩ = some (.bool p.live) := by rw [hR.cell?]; rfl
  have c2 : W.cell? ⟨w.heap.size + 1, 0, none⟩ = some (.bool q.live) := by rw [hQ.cell?]; rfl
  cases hpl : p.live with
  | false =>
    rw [hpl] at c1
    have e : joinP p q = q := by unfold joinP; rw [if_pos hpl]
    have E := Lib.hid e
    clear hpl e c2
    go_wp2_with (first
      | ((with_reducible refine load_agg (f := Value.bool) (l := q.cs) (aggPl _ HL.out.2) (.tmp 3) ?_ ?_ (w.heap.size + 1) 0 ?_ hQ.at HC2.out ?_); rfl; rfl; rfl)
      | ((with_reducible refine store_agg (f := Value.bool) (l := zPl) (l' := q.cs) (t := 105) (C := C2) (aggPl _ HL.out.2) (.tmp 4) (.tmp 9) ?_ ?_ (w.heap.size + 1 + 1) ?_ ?_ ?_ hZ ?_ bV_one ?_); rfl; rfl; rfl; exact HC2.out; rfl; exact HL.out.2; intro W5 hs5 hG5 hz5))
    refine bodyPost_ret (results_agg (f := Value.bool) (l := q.cs) rfl _ (aggPl _ HL.out.2) (w.heap.size + 1 + 1) 0 rfl hs5.at) rfl ?_
    exact ⟨_, rfl, Lib.hid (by rw [E.out]), hB.grown hG5 (Nat.le_of_lt hlt) (fun k e => by cases e; omega)⟩
  | true =>
    rw [hpl] at c1
    cases hql : q.live with
    | false =>
      rw [hql] at c2
      have e : joinP p q = p := by unfold joinP; rw [if_neg (by rw [hpl]; decide), if_pos hql]
      have E := Lib.hid e
      clear hpl hql e
      go_wp2_with (first
        | ((with_reducible refine load_agg (f := Value.bool) (l := p.cs) (aggPl _ HL.out.1) (.tmp 2) ?_ ?_ w.heap.size 0 ?_ hR.at HC1.out ?_); rfl; rfl; rfl)
        | ((with_reducible refine store_agg (f := Value.bool) (l := zPl) (l' := p.cs) (t := 105) (C := C1) (aggPl _ HL.out.1) (.tmp 4) (.tmp 14) ?_ ?_ (w.heap.size + 1 + 1) ?_ ?_ ?_ hZ ?_ bV_one ?_); rfl; rfl; rfl; exact HC1.out; rfl; exact HL.out.1; intro W5 hs5 hG5 hz5))
      refine bodyPost_ret (results_agg (f := Value.bool) (l := p.cs) rfl _ (aggPl _ HL.out.1) (w.heap.size + 1 + 1) 0 rfl hs5.at) rfl ?_
      exact ⟨_, rfl, Lib.hid (by rw [E.out]), hB.grown hG5 (Nat.le_of_lt hlt) (fun k e => by cases e; omega)⟩
    | true =>
      rw [hql] at c2
      have e : joinP p q = ⟨true, andV p.set q.set⟩ := by unfold joinP; rw [if_neg (by rw [hpl]; decide), if_neg (by rw [hql]; decide)]
      have E := Lib.hid e
      clear hpl hql e
      have h1 : At Value.bool W w.heap.size 1 p.set := fun i hi => by rw [hR.cell?, Nat.add_comm 1 i]; rfl
      have h2 : At Value.bool W (w.heap.size + 1) 1 q.set := fun i hi => by rw [hQ.cell?, Nat.add_comm 1 i]; rfl
      obtain ⟨D1, HD1⟩ : ∃ D, Hid (D = (p.set.map Value.bool).toArray) := ⟨_, Lib.hid rfl⟩
      obtain ⟨D2, HD2⟩ : ∃ D, Hid (D = (q.set.map Value.bool).toArray) := ⟨_, Lib.hid rfl⟩
      go_wp2_with (first
        | ((with_reducible refine load_agg (f := Value.bool) (l := p.set) (aggVarsL _ HS.out.1) (.tmp 15) ?_ ?_ w.heap.size 1 ?_ h1 HD1.out ?_); rfl; rfl; rfl)
        | ((with_reducible refine load_agg (f := Value.bool) (l := q.set) (aggVarsL _ HS.out.2) (.tmp 17) ?_ ?_ (w.heap.size + 1) 1 ?_ h2 HD2.out ?_); rfl; rfl; rfl))
      refine (rAnd W p.set q.set HS.out.1 HS.out.2 D1 D2 HD1 HD2).mono ?_
      rintro e W3 ⟨D3, rfl, HD3, hB3⟩
      have hZ3 := hZ.below hB3 hZ.lt
      have hB4 := hB.trans (hB3.mono hB.size)
      have HLA := Lib.hid (andV_length HS.out.1 HS.out.2)
      obtain ⟨C3, HC3⟩ : ∃ D, Hid (D = ((true :: andV p.set q.set).map Value.bool).toArray) := ⟨_, Lib.hid rfl⟩
      have HLC : Hid ((true :: andV p.set q.set).length = 17) := Lib.hid (by simp [HLA.out])
      have hB3s : w.heap.size + 1 ≤ W3.heap.size := Nat.le_trans (Nat.succ_le_of_lt hlt) hB3.size
      clear h1 h2 c1 c2 hZ hB3 hB hR hQ
      go_wp2_with (first
        | ((with_reducible refine build_place (.const (.bool true)) (.tmp 19) ?_ ?_ true (andV p.set q.set) HLA.out ?_ HD3.out ?_ HC3.out ?_); rfl; rfl; rfl; rfl)
        | ((with_reducible refine store_agg (f := Value.bool) (l := zPl) (l' := true :: andV p.set q.set) (t := 105) (C := C3) (aggPl _ HLC.out) (.tmp 4) (.tmp 20) ?_ ?_ (w.heap.size + 1 + 1) ?_ ?_ ?_ hZ3 ?_ bV_one ?_); rfl; rfl; rfl; exact HC3.out; rfl; exact HLC.out; intro W5 hs5 hG5 hz5))
      refine bodyPost_ret (results_agg (f := Value.bool) (l := true :: andV p.set q.set) rfl _ (aggPl _ HLC.out) (w.heap.size + 1 + 1) 0 rfl hs5.at) rfl ?_
      exact ⟨_, rfl, Lib.hid (by rw [E.out]; rfl), hB4.grown hG5 (by omega) (fun k e => by cases e; omega)⟩

set_option maxHeartbeats 4000000 in
theorem rWrong (w : World) (rb : Nat) (v : OC) (rp : Rp) (i e : Int) (hR : Row oV w rb 86 [v, oi rp.pos, oi rp.err]) :
    Calls Tryz.prog 46 #[.int .i64 i, .int .i64 e, .pointer (some ⟨rb, 0, none⟩)] w fun en w' => en = .returned (.tuple #[]) ∧ Row oV w' rb 86 [v, oi (rp.wrong i e).pos, oi (rp.wrong i e).err] ∧ Upd (fun k => k = rb) w w' := by
  have c1 : w.cell? ⟨rb, 1, none⟩ = some (.int .i64 rp.pos) := by rw [hR.cell?]; rfl
  have c2 : w.cell? ⟨rb, 2, none⟩ = some (.int .i64 rp.err) := by rw [hR.cell?]; rfl
  have f1 := hR.frozen 1
  have f2 := hR.frozen 2
  have HR := Lib.hid hR
  clear hR
  by_cases hp : rp.pos < 0
  · have e1 : rp.wrong i e = { rp with pos := i, err := e } := by unfold Rp.wrong; rw [if_pos hp]
    rw [e1]
    clear e1
    go_enter Tryz.func46, Tryz.ntmps46
    go_wp2
    go_end0
    exact ⟨rfl, (HR.out.set 1 (oi i)).set 2 (oi e), ((Upd.refl (fun k => k = rb) w).set (b := rb) (.inl rfl) _ _).set (b := rb) (.inl rfl) _ _⟩
  · have e1 : rp.wrong i e = rp := by unfold Rp.wrong; rw [if_neg hp]
    rw [e1]
    clear e1
    go_enter Tryz.func46, Tryz.ntmps46
    go_wp2
    go_end0
    exact ⟨rfl, HR.out, Upd.refl _ _⟩
end Go.Proofs.YtllomcmhkocdfaaGreatDoor

/- The walk through a statement. -/
namespace Go.Proofs.YtllomcmhkocdfaaGreatDoor
open Go.RowKit Mem
set_option maxRecDepth 100000

/-- what the resolver asks of a statement -/
structure StWalk (s : St) : Prop where
  rd : ∀ (W : World) (C : Array Value), Hid (C = (s.cs.map oV).toArray) → Calls Tryz.prog 30 #[.agg C] W fun e w' => ∃ C', e = .returned (.agg C') ∧ Hid (C' = ((rdV s).map Value.bool).toArray) ∧ Below W.heap.size W w'
  sv : ∀ (W : World) (C : Array Value), StD W s → Hid (C = (s.cs.map oV).toArray) → Calls Tryz.prog 28 #[.agg C] W fun e w' => ∃ C', e = .returned (.tuple #[.agg C', .bool (flB s)]) ∧ Hid (C' = ((svV s).map Value.bool).toArray) ∧ Below W.heap.size W w'

/-- what a statement does to a place, a mark and a report -/
def stp (S : List St) (i : Nat) (t e : Blk) (p : Pl) (lf : Option Bool) (r : Rp) : Pl × Option Bool × Rp :=
    let s := at' S i
    let r := markS s i p lf r
      if s.kind = 10 then
        let a := wk S t p lf r
        let b := wk S e p a.2.1 a.2.2
        (joinP a.1 b.1, b.2)
      else if s.kind = 11 then
        let a := wk S t p (some false) r
        (⟨a.2.1.getD false, p.set⟩, lf, a.2.2)
      else if s.kind = 12 then (⟨false, zV16⟩, if p.live then lf.map (fun _ => true) else lf, r)
      else if s.kind = 14 ∨ s.kind = 15 then (⟨false, zV16⟩, lf, r)
      else if flB s then
        let b := wk S e p lf r
        (joinP ⟨p.live, orV p.set (svV s)⟩ b.1, b.2)
      else
        let b := wk S e ⟨false, p.set⟩ lf r
        (⟨p.live, orV p.set (svV s)⟩, b.2)
theorem wk_cons (S : List St) (i : Nat) (t e r : Blk) (p : Pl) (lf : Option Bool) (rp : Rp) : wk S (.cons i t e r) p lf rp = wk S r (stp S i t e p lf rp).1 (stp S i t e p lf rp).2.1 (stp S i t e p lf rp).2.2 := rfl

/-- a walk through the block with number k -/
def BlkC (V : WEnv) (S : List St) (B : List (List Int)) (b : Blk) (k : Int) : Prop :=
  ∀ (X : World) (p : Pl) (_ : p.set.length = 16) (lp : Option Nat) (lf : Option Bool) (rp : Rp) (C : Array Value), Hid (C = (p.cs.map Value.bool).toArray) → WFix V S B X → LpOk V lp → WVar V S X lp lf rp →
    Calls Tryz.prog 49 #[.int .i64 k, .agg C, lpV lp, .pointer (some ⟨V.pb, 0, none⟩), .pointer (some ⟨V.tb, 0, none⟩)] X fun e X' => ∃ C', e = .returned (.agg C') ∧ Hid (C' = ((wk S b p lf rp).1.cs.map Value.bool).toArray) ∧
      Hid ((wk S b p lf rp).1.set.length = 16) ∧ Upd (V.E lp) X X' ∧ WVar V S X' lp (wk S b p lf rp).2.1 (wk S b p lf rp).2.2
/-- a walk through statement i -/
def StC (V : WEnv) (S : List St) (B : List (List Int)) (i : Nat) (t e : Blk) : Prop :=
  ∀ (X : World) (p : Pl) (_ : p.set.length = 16) (lp : Option Nat) (lf : Option Bool) (rp : Rp) (C : Array Value), Hid (C = (p.cs.map Value.bool).toArray) → WFix V S B X → LpOk V lp → WVar V S X lp lf rp →
    Calls Tryz.prog 47 #[.int .i64 i, .agg C, lpV lp, .pointer (some ⟨V.pb, 0, none⟩), .pointer (some ⟨V.rb, 0, none⟩), .pointer (some ⟨V.wb, 0, none⟩), .pointer (some ⟨V.bb, 0, none⟩)] X fun en X' => ∃ C', en = .returned (.agg C') ∧ Hid (C' = ((stp S i t e p lf rp).1.cs.map Value.bool).toArray) ∧
      Hid ((stp S i t e p lf rp).1.set.length = 16) ∧ Upd (V.E lp) X X' ∧ WVar V S X' lp (stp S i t e p lf rp).2.1 (stp S i t e p lf rp).2.2

theorem WVar.lts {V : WEnv} {S : List St} {X : World} {lp : Option Nat} {lf : Option Bool} {rp : Rp} (h : WVar V S X lp lf rp) : ∀ k, V.E lp k → k < X.heap.size := by
  intro k hk
  rcases hk with rfl | rfl | hk
  · exact h.rep.lt
  · exact h.reach.lt
  · rcases h.left with ⟨h1, _⟩ | ⟨l, b, h1, h2, h3⟩
    · rw [h1] at hk; cases hk
    · rw [h1] at hk; injection hk with hk; subst hk; exact h3.lt
theorem WVar.setReach {V : WEnv} {S : List St} {B : List (List Int)} {X : World} {lp : Option Nat} {lf : Option Bool} {rp : Rp} (h : WVar V S X lp lf rp) (hF : WFix V S B X) (hL : LpOk V lp) (i : Nat) (b : Bool) :
    WVar V S (X.setCell ⟨V.qb, i, none⟩ (.bool b)) lp lf { rp with reach := rp.reach.set i b } := by
  refine ⟨h.rep.set_other hF.ne.1 _ _, h.reach.set i b, by simpa using h.len, ?_⟩
  rcases h.left with h1 | ⟨l, b', h1, h2, h3⟩
  · exact .inl h1
  · exact .inr ⟨l, b', h1, h2, h3.set_other ((hL l h1).2.2.2.1) _ _⟩

theorem WVar.grow {V : WEnv} {S : List St} {X Y : World} {lp : Option Nat} {lf : Option Bool} {rp : Rp} (h : WVar V S X lp lf rp) {N b : Nat} (hn : ∀ k, N ≤ k → ¬ V.E lp k) (hg : X.grownBy Y (some b)) (hb : N ≤ b) : WVar V S Y lp lf rp := by
  have hnb := hn b hb
  refine ⟨h.rep.grown hg (fun e => hnb (by injection e with e; exact .inl e.symm)), h.reach.grown hg (fun e => hnb (by injection e with e; exact .inr (.inl e.symm))), h.len, ?_⟩
  rcases h.left with h1 | ⟨l, b', h1, h2, h3⟩
  · exact .inl h1
  · exact .inr ⟨l, b', h1, h2, h3.grown hg (fun e => hnb (by injection e with e; subst e; exact .inr (.inr h1)))⟩
end Go.Proofs.YtllomcmhkocdfaaGreatDoor

/- The walk through a statement: ends. -/
namespace Go.Proofs.YtllomcmhkocdfaaGreatDoor
open Go.RowKit Mem
set_option maxRecDepth 100000

set_option maxHeartbeats 16000000 in
theorem rSt_Rej {S : List St} {B : List (List Int)} (V : WEnv) (hS : S.length ≤ 64) (i : Nat) (s : St) (hs : S[i]? = some s) (hst : StWalk s) (t e : Blk) (hk : s.kind = 14) (IHt : BlkC V S B t s.t) (IHe : BlkC V S B e s.e) : StC V S B i t e := by
  intro X p hp lp lf rp C HC hF hL hV
  obtain ⟨sb, so, hsp, hA0, hsbl, hin⟩ := hF.pg.stmt hs
  have hil : i < S.length := (List.getElem?_eq_some_iff.1 hs).1
  have hi1 : (i : Int) < (S.length : Int) := by omega
  have hE := hV.lts
  have hF0 := Lib.hid hF
  have hV0 := Lib.hid hV
  have hL0 := Lib.hid hL
  have HP := Lib.hid hp
  have HSD := Lib.hid (hF.pg.sd s (List.mem_of_getElem? hs))
  have c0 := hF.box.c0
  rw [hsp, hF.pg.ns] at c0
  have hAX : At oV X sb (so + i * 33) s.cs := hA0.below hF.below hsbl
  have hsX : sb < X.heap.size := Nat.lt_of_lt_of_le hsbl hF.below.size
  have hpbX := hF.top.1
  have hrbX := hV.rep.lt
  have hqbX := hV.reach.lt
  have r0 : X.cell? ⟨V.rb, 0, none⟩ = some (.slice (some ⟨V.qb, 0, none⟩) S.length S.length) := by rw [hV.rep.cell?]; rfl
  have hq0 : ∃ b, X.cell? ⟨V.qb, i, none⟩ = some (.bool b) := ⟨_, by rw [hV.reach.cell?, List.getElem?_eq_getElem (by rw [hV.len]; exact hil)]; rfl⟩
  obtain ⟨bq, q0⟩ := hq0
  have qf := hV.reach.frozen i
  clear hF hV hL hp hA0 hsp hin hsbl
  have HC0 := Lib.hid (And.intro c0 (And.intro r0 (And.intro q0 qf)))
  clear c0 r0 q0 qf
  go_enter Tryz.func47, Tryz.ntmps47
  go_upto_region 1 with (fail)
  obtain ⟨W, hW, hR, hZ, hB, hsW⟩ : ∃ W, (X.alloc (.cells C 105)).alloc (.cells zPlC 105) = W ∧ Row Value.bool W X.heap.size 105 p.cs ∧ Row Value.bool W (X.heap.size + 1) 105 zPl ∧ Below X.heap.size X W ∧ W.heap.size = X.heap.size + 2 :=
    ⟨_, rfl, Row.alloc (Row.new X _ (by rw [HC.out])) _, heap_new' _ _ _ (by simp), ((Below.refl _ _).alloc (Nat.le_refl _) _).alloc (by simp) _, by simp⟩
  rw [hW]
  clear hW
  have c0 := (hB.cell (p := ⟨V.pb, 0, none⟩) hpbX).trans HC0.out.1
  have hA1 := hAX.below hB hsX
  obtain ⟨C1, HC1⟩ : ∃ C1, Hid (C1 = (s.cs.map oV).toArray) := ⟨_, Lib.hid rfl⟩
  have hZ1 : Row oV (W.alloc (.cells zStmtC 45)) (X.heap.size + 2) 45 (stC 0 0 ⟨#[]⟩ 0 0) := by rw [← hsW]; exact Row.new _ _ rfl
  go_upto_region 2 with (first
    | ((with_reducible refine load_agg (f := oV) (l := s.cs) (aggSt _) (.tmp 20) ?_ ?_ sb (so + i * 33) ?_ hA1 HC1.out ?_); rfl; rfl; rfl)
    | ((with_reducible refine store_agg (f := oV) (l := stC 0 0 ⟨#[]⟩ 0 0) (l' := s.cs) (t := 45) (C := C1) (aggSt _) (.tmp 11) (.tmp 21) ?_ ?_ (X.heap.size + 2) ?_ ?_ ?_ hZ1 ?_ oV_one ?_); rfl; rfl; rfl; exact HC1.out; rfl; rfl; intro W5 hs5 hG5 hz5))
  have hB5 : Below X.heap.size X W5 := (hB.alloc hB.size (.cells zStmtC 45)).grown hG5 (by simp; omega) (fun k e => by cases e; omega)
  have hR5 : Row Value.bool W5 X.heap.size 105 p.cs := (hR.alloc _).grown hG5 (by simp)
  have hZ5 : Row Value.bool W5 (X.heap.size + 1) 105 zPl := (hZ.alloc _).grown hG5 (by simp)
  have hs5' : X.heap.size + 3 ≤ W5.heap.size := Nat.lt_of_lt_of_le (by omega) hs5.lt
  clear c0 hA1 hZ1 hR hZ hB hG5 hz5 hsW hAX
  have r0 := (hB5.cell (p := ⟨V.rb, 0, none⟩) hrbX).trans HC0.out.2.1
  have q0 := (hB5.cell (p := ⟨V.qb, i, none⟩) hqbX).trans HC0.out.2.2.1
  have qf := (hB5.frozen (p := ⟨V.qb, i, none⟩) hqbX).trans HC0.out.2.2.2
  have d0 : W5.cell? ⟨X.heap.size, 0, none⟩ = some (.bool p.live) := by rw [hR5.cell?]; rfl
  have HX := Lib.hid (And.intro hB5 (And.intro hR5 (And.intro hZ5 hs5)))
  clear hB5 hR5 hZ5 hs5
  go_upto_region 3 with (fail)
  obtain ⟨W6, hW6⟩ : ∃ W6, W5.setCell ⟨V.qb, i, none⟩ (.bool p.live) = W6 := ⟨_, rfl⟩
  have hs6 : X.heap.size + 3 ≤ W6.heap.size := by rw [← hW6]; simpa using hs5'
  have HV6 : Hid (WVar V S W6 lp lf { rp with reach := rp.reach.set i p.live }) := Lib.hid (by rw [← hW6]; exact (hV0.out.below HX.out.1).setReach (hF0.out.below' HX.out.1) hL0.out i p.live)
  have hU6 : Upd (V.E lp) X W6 := by rw [← hW6]; exact (Upd.of_below _ HX.out.1 (Nat.le_refl _)).set (.inl (.inr (.inl rfl))) _ _
  have HF : Hid (∀ Z, Upd (V.E lp) W6 Z → WFix V S B Z ∧ Upd (V.E lp) X Z ∧ Row Value.bool Z X.heap.size 105 p.cs ∧ Row Value.bool Z (X.heap.size + 1) 105 zPl ∧ Row oV Z (X.heap.size + 2) 45 s.cs ∧ X.heap.size + 3 ≤ Z.heap.size) := Lib.hid fun Z hZ => by
    obtain ⟨h1, h2, h3, h4⟩ := HX.out
    have hU : Upd (V.E lp) X Z := hU6.trans hZ (fun k _ h => h)
    have n : ∀ k, X.heap.size ≤ k → ¬ V.E lp k := fun k hk h => absurd (hE k h) (by omega)
    have k2 : Row Value.bool W6 X.heap.size 105 p.cs := by rw [← hW6]; exact h2.set_other (by omega) _ _
    have k3 : Row Value.bool W6 (X.heap.size + 1) 105 zPl := by rw [← hW6]; exact h3.set_other (by omega) _ _
    have k4 : Row oV W6 (X.heap.size + 2) 45 s.cs := by rw [← hW6]; exact h4.set_other (by omega) _ _
    exact ⟨hF0.out.upd hU hL0.out, hU, k2.upd hZ (n _ (Nat.le_refl _)), k3.upd hZ (n _ (by omega)), k4.upd hZ (n _ (by omega)), Nat.le_trans hs6 hZ.size⟩
  rw [hW6]
  clear hW6 r0 q0 qf d0 hs5' HX hU6 HC0
  have hEn : ∀ k, X.heap.size ≤ k → ¬ V.E lp k := fun k hk h => absurd (hE k h) (by omega)
  have HEn := Lib.hid hEn
  clear hEn hE
  have e0 : W6.cell? ⟨X.heap.size + 2, 0, none⟩ = some (.int .i64 s.kind) := by rw [(HF.out W6 (Upd.refl _ _)).2.2.2.2.1.cell?]; rfl
  rw [hk] at e0
  have hmk0 : ¬ (s.kind = 12 ∧ lf = none) := fun h => by rw [hk] at h; exact absurd h.1 (by decide)
  go_upto_if 34 with (fail)
  go_cut [52] (fun _ wx => Upd (V.E lp) W6 wx ∧ WVar V S wx lp lf (markS s i p lf rp))
  case first =>
    clear e0
    have hF6 : ∀ Z, Below W6.heap.size W6 Z → WFix V S B Z ∧ Upd (V.E lp) X Z ∧ Row Value.bool Z X.heap.size 105 p.cs ∧ Row Value.bool Z (X.heap.size + 1) 105 zPl ∧ Row oV Z (X.heap.size + 2) 45 s.cs ∧ X.heap.size + 3 ≤ Z.heap.size := fun Z hZ => HF.out Z (Upd.of_below _ hZ (Nat.le_refl _))
    obtain ⟨CV, HCV⟩ : ∃ CV, Hid (CV = (p.set.map Value.bool).toArray) := ⟨_, Lib.hid rfl⟩
    have hV16 : ∀ Z, Below W6.heap.size W6 Z → At Value.bool Z X.heap.size 1 p.set := fun Z hZ i hi => by rw [(hF6 Z hZ).2.2.1.cell?, Nat.add_comm 1 i]; rfl
    cases hlv : p.live with
    | false =>
      have hm : markS s i p lf rp = { rp with reach := rp.reach.set i p.live } := by
        unfold markS
        simp only [if_neg hmk0]
        rw [if_neg (by rw [hlv]; intro h; exact absurd h.1 (by decide))]
      rw [hlv] at hm
      have HM := Lib.hid hm
      have HL := Lib.hid hlv
      clear hm hlv
      go_wp2_with fail
      refine wp_region_held_drew (S := fun Z => Below W6.heap.size W6 Z) rfl (Below.refl _ _).drew fun hS6 => ?_
      refine takeD (i := 0) (d := 38) (v := .pointer (some ⟨X.heap.size, 0, none⟩)) rfl rfl (by kernel_rfl) (by kernel_rfl) (by kernel_rfl) (fun c a w h => h) (yieldsIf_op rfl (fun w => by first | rfl | kernel_rfl | (go_simp; done))) hS6 ?_
      simp only [List.setIfInBounds_toArray, List.set_cons_succ, List.set_cons_zero]
      refine takeD (i := 1) (d := 39) (v := .bool false) rfl rfl (by kernel_rfl) (by kernel_rfl) (by kernel_rfl) (fun c a w h => h) (.inl ⟨by first | rfl | kernel_rfl, fun W' h => by have q0 : W'.cell? ⟨X.heap.size, 0, none⟩ = some (.bool false) := (by rw [(hF6 W' h).2.2.1.cell?, ← HL.out]; rfl); go_simp⟩) hS6 ?_
      simp only [List.setIfInBounds_toArray, List.set_cons_succ, List.set_cons_zero]
      refine takeD (i := 2) (d := 40) (v := .bool false) rfl rfl (by kernel_rfl) (by kernel_rfl) (by kernel_rfl) (fun c a w h => h) (yieldsIf_op rfl (fun w => by first | rfl | kernel_rfl | (go_simp; done))) hS6 ?_
      simp only [List.setIfInBounds_toArray, List.set_cons_succ, List.set_cons_zero]
      refine takeD (i := 3) (d := 41) (v := undef) rfl rfl (by kernel_rfl) (by kernel_rfl) (by kernel_rfl) (fun c a w h => h) (yieldsIf_skip (by first | rfl | kernel_rfl)) hS6 ?_
      simp only [List.setIfInBounds_toArray, List.set_cons_succ, List.set_cons_zero]
      refine takeD (i := 4) (d := 42) (v := undef) rfl rfl (by kernel_rfl) (by kernel_rfl) (by kernel_rfl) (fun c a w h => h) (yieldsIf_skip (by first | rfl | kernel_rfl)) hS6 ?_
      simp only [List.setIfInBounds_toArray, List.set_cons_succ, List.set_cons_zero]
      refine takeD (i := 5) (d := 43) (v := undef) rfl rfl (by kernel_rfl) (by kernel_rfl) (by kernel_rfl) (fun c a w h => h) (yieldsIf_skip (by first | rfl | kernel_rfl)) hS6 ?_
      simp only [List.setIfInBounds_toArray, List.set_cons_succ, List.set_cons_zero]
      refine takeD (i := 6) (d := 44) (v := undef) rfl rfl (by kernel_rfl) (by kernel_rfl) (by kernel_rfl) (fun c a w h => h) (yieldsIf_skip (by first | rfl | kernel_rfl)) hS6 ?_
      simp only [List.setIfInBounds_toArray, List.set_cons_succ, List.set_cons_zero]
      refine takeD (i := 7) (d := 45) (v := undef) rfl rfl (by kernel_rfl) (by kernel_rfl) (by kernel_rfl) (fun c a w h => h) (yieldsIf_skip (by first | rfl | kernel_rfl)) hS6 ?_
      simp only [List.setIfInBounds_toArray, List.set_cons_succ, List.set_cons_zero]
      refine takeD (i := 8) (d := 46) (v := undef) rfl rfl (by kernel_rfl) (by kernel_rfl) (by kernel_rfl) (fun c a w h => h) (yieldsIf_skip (by first | rfl | kernel_rfl)) hS6 ?_
      simp only [List.setIfInBounds_toArray, List.set_cons_succ, List.set_cons_zero]
      refine takeD (i := 9) (d := 47) (v := undef) rfl rfl (by kernel_rfl) (by kernel_rfl) (by kernel_rfl) (fun c a w h => h) (yieldsIf_skip (by first | rfl | kernel_rfl)) hS6 ?_
      simp only [List.setIfInBounds_toArray, List.set_cons_succ, List.set_cons_zero]
      refine takeD (i := 10) (d := 48) (v := undef) rfl rfl (by kernel_rfl) (by kernel_rfl) (by kernel_rfl) (fun c a w h => h) (yieldsIf_skip (by first | rfl | kernel_rfl)) hS6 ?_
      simp only [List.setIfInBounds_toArray, List.set_cons_succ, List.set_cons_zero]
      refine takeD (i := 11) (d := 49) (v := .bool false) rfl rfl (by kernel_rfl) (by kernel_rfl) (by kernel_rfl) (fun c a w h => h) (yieldsIf_op rfl (fun w => by first | rfl | kernel_rfl | (go_simp; done))) hS6 ?_
      simp only [List.setIfInBounds_toArray, List.set_cons_succ, List.set_cons_zero]
      refine wpAnyH_done (by kernel_rfl) ?_ _
      clear hS6
      go_wp2_with fail
      go_meet
      exact ⟨(Upd.refl _ _).drew, by rw [HM.out, ← HL.out]; exact HV6.out.below (Below.refl _ _).drew⟩
    | true =>
      have HL := Lib.hid hlv
      clear hlv
      go_wp2_with fail
      refine wp_region_held_drew (S := fun Z => Below W6.heap.size W6 Z) rfl (Below.refl _ _).drew fun hS6 => ?_
      refine takeD (i := 0) (d := 38) (v := .pointer (some ⟨X.heap.size, 0, none⟩)) rfl rfl (by kernel_rfl) (by kernel_rfl) (by kernel_rfl) (fun c a w h => h) (yieldsIf_op rfl (fun w => by first | rfl | kernel_rfl | (go_simp; done))) hS6 ?_
      simp only [List.setIfInBounds_toArray, List.set_cons_succ, List.set_cons_zero]
      refine takeD (i := 1) (d := 39) (v := .bool true) rfl rfl (by kernel_rfl) (by kernel_rfl) (by kernel_rfl) (fun c a w h => h) (.inl ⟨by first | rfl | kernel_rfl, fun W' h => by have q0 : W'.cell? ⟨X.heap.size, 0, none⟩ = some (.bool true) := (by rw [(hF6 W' h).2.2.1.cell?, ← HL.out]; rfl); go_simp⟩) hS6 ?_
      simp only [List.setIfInBounds_toArray, List.set_cons_succ, List.set_cons_zero]
      refine takeD (i := 2) (d := 40) (v := .bool true) rfl rfl (by kernel_rfl) (by kernel_rfl) (by kernel_rfl) (fun c a w h => h) (yieldsIf_op rfl (fun w => by first | rfl | kernel_rfl | (go_simp; done))) hS6 ?_
      simp only [List.setIfInBounds_toArray, List.set_cons_succ, List.set_cons_zero]
      refine takeD (i := 3) (d := 41) (v := .pointer (some ⟨X.heap.size, 1, none⟩)) rfl rfl (by kernel_rfl) (by kernel_rfl) (by kernel_rfl) (fun c a w h => h) (yieldsIf_op rfl (fun w => by first | rfl | kernel_rfl | (go_simp; done))) hS6 ?_
      simp only [List.setIfInBounds_toArray, List.set_cons_succ, List.set_cons_zero]
      refine takeD (i := 4) (d := 42) (v := .agg CV) rfl rfl (by kernel_rfl) (by kernel_rfl) (by kernel_rfl) (fun c a w h => h) (yieldsIf_load (f := Value.bool) (l := p.set) (aggVarsL _ HP.out) (.tmp 41) rfl X.heap.size 1 rfl (fun W' h => hV16 W' h) HCV.out rfl) hS6 ?_
      simp only [List.setIfInBounds_toArray, List.set_cons_succ, List.set_cons_zero]
      refine takeD (i := 5) (d := 43) (v := .agg C1) rfl rfl (by kernel_rfl) (by kernel_rfl) (by kernel_rfl) (fun c a w h => h) (yieldsIf_load (f := oV) (l := s.cs) (aggSt _) (.tmp 11) rfl (X.heap.size + 2) 0 rfl (fun W' h => (hF6 W' h).2.2.2.2.1.at) HC1.out rfl) hS6 ?_
      simp only [List.setIfInBounds_toArray, List.set_cons_succ, List.set_cons_zero]
      refine takeD (i := 8) (d := 46) (v := .pointer (some ⟨X.heap.size, 1, none⟩)) rfl rfl (by kernel_rfl) (by kernel_rfl) (by kernel_rfl) (fun c a w h => h) (yieldsIf_op rfl (fun w => by first | rfl | kernel_rfl | (go_simp; done))) hS6 ?_
      simp only [List.setIfInBounds_toArray, List.set_cons_succ, List.set_cons_zero]
      refine takeD (i := 9) (d := 47) (v := .agg CV) rfl rfl (by kernel_rfl) (by kernel_rfl) (by kernel_rfl) (fun c a w h => h) (yieldsIf_load (f := Value.bool) (l := p.set) (aggVarsL _ HP.out) (.tmp 46) rfl X.heap.size 1 rfl (fun W' h => hV16 W' h) HCV.out rfl) hS6 ?_
      simp only [List.setIfInBounds_toArray, List.set_cons_succ, List.set_cons_zero]
      refine wpAnyH_ready (rs := [6]) (by kernel_rfl) (by simp) (AllReadyH.cons rfl (fun K' hK => ?_) AllReadyH.nil)
      refine callD (d := 44) (g := 30) (args := #[.agg C1]) rfl rfl (by first | kernel_rfl | (simp [execOp, resolve, invoke, Act.eval]) | go_simp) ?_
      refine (hst.rd _ C1 HC1).mono ?_
      rintro e7 W7 ⟨C7, rfl, HC7, hB7⟩
      replace hS6 := hS6.trans (hB7.mono hS6.size)
      refine ⟨_, rfl, hK.out _ _ hS6 fun _ => ?_⟩
      clear hK hB7
      simp only [List.setIfInBounds_toArray, List.set_cons_succ, List.set_cons_zero]
      refine wpAnyH_ready (rs := [7]) (by kernel_rfl) (by simp) (AllReadyH.cons rfl (fun K' hK => ?_) AllReadyH.nil)
      refine callD (d := 45) (g := 29) (args := #[.agg CV, .agg C7]) rfl rfl (by first | kernel_rfl | (simp [execOp, resolve, invoke, Act.eval]) | go_simp) ?_
      refine (rOr _ p.set (rdV s) HP.out (rdV_length s) CV C7 HCV HC7).mono ?_
      rintro e8 W8 ⟨C8, rfl, HC8, hB8⟩
      replace hS6 := hS6.trans (hB8.mono hS6.size)
      refine ⟨_, rfl, hK.out _ _ hS6 fun _ => ?_⟩
      clear hK hB8
      simp only [List.setIfInBounds_toArray, List.set_cons_succ, List.set_cons_zero]
      refine takeD (i := 10) (d := 48) (v := .bool (orV p.set (rdV s) != p.set)) rfl rfl (by kernel_rfl) (by kernel_rfl) (by kernel_rfl) (fun c a w h => h) (yieldsIf_op rfl (fun w => exec_neq_vars (.tmp 45) (.tmp 47) rfl (orV p.set (rdV s)) p.set (orV_length HP.out (rdV_length s)) HP.out HC8.out HCV.out rfl rfl w)) hS6 ?_
      simp only [List.setIfInBounds_toArray, List.set_cons_succ, List.set_cons_zero]
      refine takeD (i := 11) (d := 49) (v := .bool (orV p.set (rdV s) != p.set)) rfl rfl (by kernel_rfl) (by kernel_rfl) (by kernel_rfl) (fun c a w h => h) (yieldsIf_op rfl (fun w => by first | rfl | kernel_rfl | (go_simp; done))) hS6 ?_
      simp only [List.setIfInBounds_toArray, List.set_cons_succ, List.set_cons_zero]
      refine wpAnyH_done (by kernel_rfl) ?_ _
      have hb8 := (hF6 W8 hS6)
      have cw := hb8.1.cw
      have hV8 := HV6.out.below hS6
      have HU8 := Lib.hid (Upd.of_below (V.E lp) hS6 (Nat.le_refl _))
      have HV8 := Lib.hid hV8
      clear hb8 hS6 hF6 hV16 hV8
      cases hne : (orV p.set (rdV s) != p.set) with
      | false =>
        have hm : markS s i p lf rp = { rp with reach := rp.reach.set i p.live } := by
          unfold markS
          simp only [if_neg hmk0]
          rw [if_neg (by intro h; simp at hne; exact h.2 hne)]
        have HM := Lib.hid hm
        clear hm hne
        go_wp2_with fail
        go_meet
        exact ⟨HU8.out, by rw [HM.out]; exact HV8.out⟩
      | true =>
        have hm : markS s i p lf rp = ({ rp with reach := rp.reach.set i p.live } : Rp).wrong i 170 := by
          unfold markS
          simp only [if_neg hmk0]
          rw [if_pos ⟨HL.out, by simpa using hne⟩]
        have HM := Lib.hid hm
        clear hm hne
        go_wp2_with fail
        refine (rWrong W8 V.rb _ { rp with reach := rp.reach.set i p.live } i 170 HV8.out.rep).mono ?_
        rintro en W9 ⟨rfl, hr9, hu9⟩
        have hV9 : WVar V S W9 lp lf (({ rp with reach := rp.reach.set i p.live } : Rp).wrong i 170) := by
          have h := HV8.out
          refine ⟨hr9, ?_, ?_, ?_⟩
          · have := h.reach.upd hu9 (by show ¬ V.qb = V.rb; exact fun e => hF0.out.ne.1 e.symm)
            unfold Rp.wrong; split <;> exact this
          · have := h.len
            unfold Rp.wrong; split <;> exact this
          · rcases h.left with h1 | ⟨l, b, h1, h2, h3⟩
            · exact .inl h1
            · exact .inr ⟨l, b, h1, h2, h3.upd hu9 (by show ¬ l = V.rb; exact (hL0.out l h1).2.2.1)⟩
        have hU9 := HU8.out.trans hu9 (fun k _ h => .inl h)
        have H9 := Lib.hid (And.intro hU9 hV9)
        clear hr9 hu9 hV9 hU9 cw
        go_wp2_with fail
        go_meet
        exact ⟨H9.out.1, by rw [HM.out]; exact H9.out.2⟩
  case rest =>
    obtain ⟨hU7, hV7⟩ := hcut
    clear e0
    have HFZ : Hid (∀ Z, Upd (V.E lp) wc Z → WFix V S B Z ∧ Upd (V.E lp) X Z ∧ Row Value.bool Z X.heap.size 105 p.cs ∧ Row Value.bool Z (X.heap.size + 1) 105 zPl ∧ Row oV Z (X.heap.size + 2) 45 s.cs ∧ X.heap.size + 3 ≤ Z.heap.size) := Lib.hid fun Z hZ => HF.out Z (hU7.trans hZ (fun k _ h => h))
    have HV7 := Lib.hid hV7
    clear hU7 hV7 HF HV6 hs6
    have e0 : wc.cell? ⟨X.heap.size + 2, 0, none⟩ = some (.int .i64 14) := by rw [(HFZ.out wc (Upd.refl _ _)).2.2.2.2.1.cell?]; rw [show s.cs[0]? = some (oi s.kind) from rfl, hk]; rfl
    have hst1 : stp S i t e p lf rp = (⟨false, zV16⟩, lf, markS s i p lf rp) := by unfold stp; simp only [at'_of hs, hk]; rfl
    have HST := Lib.hid hst1
    obtain ⟨hF7, hU7, hR7, hZ7, hs7, hz7⟩ := HFZ.out wc (Upd.refl _ _)
    have HU7 := Lib.hid hU7
    clear hF7 hU7 hR7 hs7 hst1
    go_wp2_with (first
      | ((with_reducible refine store_agg (f := Value.bool) (l := zPl) (l' := zPl) (t := 105) (C := zPlC) (aggPl _ rfl) (.tmp 10) (.tmp 96) ?_ ?_ (X.heap.size + 1) ?_ ?_ ?_ hZ7 ?_ bV_one ?_); rfl; rfl; rfl; rfl; rfl; rfl; intro Wa hsa hGa hza))
    refine bodyPost_ret (results_agg (f := Value.bool) (l := zPl) rfl _ (aggPl _ rfl) (X.heap.size + 1) 0 rfl hsa.at) rfl ?_
    rw [HST.out]
    exact ⟨_, rfl, Lib.hid rfl, Lib.hid rfl, HU7.out.grown hGa (fun b e => by cases e; exact .inr (by omega)), HV7.out.grow HEn.out hGa (by omega)⟩

set_option maxHeartbeats 16000000 in
theorem rSt_Acc {S : List St} {B : List (List Int)} (V : WEnv) (hS : S.length ≤ 64) (i : Nat) (s : St) (hs : S[i]? = some s) (hst : StWalk s) (t e : Blk) (hk : s.kind = 15) (IHt : BlkC V S B t s.t) (IHe : BlkC V S B e s.e) : StC V S B i t e := by
  intro X p hp lp lf rp C HC hF hL hV
  obtain ⟨sb, so, hsp, hA0, hsbl, hin⟩ := hF.pg.stmt hs
  have hil : i < S.length := (List.getElem?_eq_some_iff.1 hs).1
  have hi1 : (i : Int) < (S.length : Int) := by omega
  have hE := hV.lts
  have hF0 := Lib.hid hF
  have hV0 := Lib.hid hV
  have hL0 := Lib.hid hL
  have HP := Lib.hid hp
  have HSD := Lib.hid (hF.pg.sd s (List.mem_of_getElem? hs))
  have c0 := hF.box.c0
  rw [hsp, hF.pg.ns] at c0
  have hAX : At oV X sb (so + i * 33) s.cs := hA0.below hF.below hsbl
  have hsX : sb < X.heap.size := Nat.lt_of_lt_of_le hsbl hF.below.size
  have hpbX := hF.top.1
  have hrbX := hV.rep.lt
  have hqbX := hV.reach.lt
  have r0 : X.cell? ⟨V.rb, 0, none⟩ = some (.slice (some ⟨V.qb, 0, none⟩) S.length S.length) := by rw [hV.rep.cell?]; rfl
  have hq0 : ∃ b, X.cell? ⟨V.qb, i, none⟩ = some (.bool b) := ⟨_, by rw [hV.reach.cell?, List.getElem?_eq_getElem (by rw [hV.len]; exact hil)]; rfl⟩
  obtain ⟨bq, q0⟩ := hq0
  have qf := hV.reach.frozen i
  clear hF hV hL hp hA0 hsp hin hsbl
  have HC0 := Lib.hid (And.intro c0 (And.intro r0 (And.intro q0 qf)))
  clear c0 r0 q0 qf
  go_enter Tryz.func47, Tryz.ntmps47
  go_upto_region 1 with (fail)
  obtain ⟨W, hW, hR, hZ, hB, hsW⟩ : ∃ W, (X.alloc (.cells C 105)).alloc (.cells zPlC 105) = W ∧ Row Value.bool W X.heap.size 105 p.cs ∧ Row Value.bool W (X.heap.size + 1) 105 zPl ∧ Below X.heap.size X W ∧ W.heap.size = X.heap.size + 2 :=
    ⟨_, rfl, Row.alloc (Row.new X _ (by rw [HC.out])) _, heap_new' _ _ _ (by simp), ((Below.refl _ _).alloc (Nat.le_refl _) _).alloc (by simp) _, by simp⟩
  rw [hW]
  clear hW
  have c0 := (hB.cell (p := ⟨V.pb, 0, none⟩) hpbX).trans HC0.out.1
  have hA1 := hAX.below hB hsX
  obtain ⟨C1, HC1⟩ : ∃ C1, Hid (C1 = (s.cs.map oV).toArray) := ⟨_, Lib.hid rfl⟩
  have hZ1 : Row oV (W.alloc (.cells zStmtC 45)) (X.heap.size + 2) 45 (stC 0 0 ⟨#[]⟩ 0 0) := by rw [← hsW]; exact Row.new _ _ rfl
  go_upto_region 2 with (first
    | ((with_reducible refine load_agg (f := oV) (l := s.cs) (aggSt _) (.tmp 20) ?_ ?_ sb (so + i * 33) ?_ hA1 HC1.out ?_); rfl; rfl; rfl)
    | ((with_reducible refine store_agg (f := oV) (l := stC 0 0 ⟨#[]⟩ 0 0) (l' := s.cs) (t := 45) (C := C1) (aggSt _) (.tmp 11) (.tmp 21) ?_ ?_ (X.heap.size + 2) ?_ ?_ ?_ hZ1 ?_ oV_one ?_); rfl; rfl; rfl; exact HC1.out; rfl; rfl; intro W5 hs5 hG5 hz5))
  have hB5 : Below X.heap.size X W5 := (hB.alloc hB.size (.cells zStmtC 45)).grown hG5 (by simp; omega) (fun k e => by cases e; omega)
  have hR5 : Row Value.bool W5 X.heap.size 105 p.cs := (hR.alloc _).grown hG5 (by simp)
  have hZ5 : Row Value.bool W5 (X.heap.size + 1) 105 zPl := (hZ.alloc _).grown hG5 (by simp)
  have hs5' : X.heap.size + 3 ≤ W5.heap.size := Nat.lt_of_lt_of_le (by omega) hs5.lt
  clear c0 hA1 hZ1 hR hZ hB hG5 hz5 hsW hAX
  have r0 := (hB5.cell (p := ⟨V.rb, 0, none⟩) hrbX).trans HC0.out.2.1
  have q0 := (hB5.cell (p := ⟨V.qb, i, none⟩) hqbX).trans HC0.out.2.2.1
  have qf := (hB5.frozen (p := ⟨V.qb, i, none⟩) hqbX).trans HC0.out.2.2.2
  have d0 : W5.cell? ⟨X.heap.size, 0, none⟩ = some (.bool p.live) := by rw [hR5.cell?]; rfl
  have HX := Lib.hid (And.intro hB5 (And.intro hR5 (And.intro hZ5 hs5)))
  clear hB5 hR5 hZ5 hs5
  go_upto_region 3 with (fail)
  obtain ⟨W6, hW6⟩ : ∃ W6, W5.setCell ⟨V.qb, i, none⟩ (.bool p.live) = W6 := ⟨_, rfl⟩
  have hs6 : X.heap.size + 3 ≤ W6.heap.size := by rw [← hW6]; simpa using hs5'
  have HV6 : Hid (WVar V S W6 lp lf { rp with reach := rp.reach.set i p.live }) := Lib.hid (by rw [← hW6]; exact (hV0.out.below HX.out.1).setReach (hF0.out.below' HX.out.1) hL0.out i p.live)
  have hU6 : Upd (V.E lp) X W6 := by rw [← hW6]; exact (Upd.of_below _ HX.out.1 (Nat.le_refl _)).set (.inl (.inr (.inl rfl))) _ _
  have HF : Hid (∀ Z, Upd (V.E lp) W6 Z → WFix V S B Z ∧ Upd (V.E lp) X Z ∧ Row Value.bool Z X.heap.size 105 p.cs ∧ Row Value.bool Z (X.heap.size + 1) 105 zPl ∧ Row oV Z (X.heap.size + 2) 45 s.cs ∧ X.heap.size + 3 ≤ Z.heap.size) := Lib.hid fun Z hZ => by
    obtain ⟨h1, h2, h3, h4⟩ := HX.out
    have hU : Upd (V.E lp) X Z := hU6.trans hZ (fun k _ h => h)
    have n : ∀ k, X.heap.size ≤ k → ¬ V.E lp k := fun k hk h => absurd (hE k h) (by omega)
    have k2 : Row Value.bool W6 X.heap.size 105 p.cs := by rw [← hW6]; exact h2.set_other (by omega) _ _
    have k3 : Row Value.bool W6 (X.heap.size + 1) 105 zPl := by rw [← hW6]; exact h3.set_other (by omega) _ _
    have k4 : Row oV W6 (X.heap.size + 2) 45 s.cs := by rw [← hW6]; exact h4.set_other (by omega) _ _
    exact ⟨hF0.out.upd hU hL0.out, hU, k2.upd hZ (n _ (Nat.le_refl _)), k3.upd hZ (n _ (by omega)), k4.upd hZ (n _ (by omega)), Nat.le_trans hs6 hZ.size⟩
  rw [hW6]
  clear hW6 r0 q0 qf d0 hs5' HX hU6 HC0
  have hEn : ∀ k, X.heap.size ≤ k → ¬ V.E lp k := fun k hk h => absurd (hE k h) (by omega)
  have HEn := Lib.hid hEn
  clear hEn hE
  have e0 : W6.cell? ⟨X.heap.size + 2, 0, none⟩ = some (.int .i64 s.kind) := by rw [(HF.out W6 (Upd.refl _ _)).2.2.2.2.1.cell?]; rfl
  rw [hk] at e0
  have hmk0 : ¬ (s.kind = 12 ∧ lf = none) := fun h => by rw [hk] at h; exact absurd h.1 (by decide)
  go_upto_if 34 with (fail)
  go_cut [52] (fun _ wx => Upd (V.E lp) W6 wx ∧ WVar V S wx lp lf (markS s i p lf rp))
  case first =>
    clear e0
    have hF6 : ∀ Z, Below W6.heap.size W6 Z → WFix V S B Z ∧ Upd (V.E lp) X Z ∧ Row Value.bool Z X.heap.size 105 p.cs ∧ Row Value.bool Z (X.heap.size + 1) 105 zPl ∧ Row oV Z (X.heap.size + 2) 45 s.cs ∧ X.heap.size + 3 ≤ Z.heap.size := fun Z hZ => HF.out Z (Upd.of_below _ hZ (Nat.le_refl _))
    obtain ⟨CV, HCV⟩ : ∃ CV, Hid (CV = (p.set.map Value.bool).toArray) := ⟨_, Lib.hid rfl⟩
    have hV16 : ∀ Z, Below W6.heap.size W6 Z → At Value.bool Z X.heap.size 1 p.set := fun Z hZ i hi => by rw [(hF6 Z hZ).2.2.1.cell?, Nat.add_comm 1 i]; rfl
    cases hlv : p.live with
    | false =>
      have hm : markS s i p lf rp = { rp with reach := rp.reach.set i p.live } := by
        unfold markS
        simp only [if_neg hmk0]
        rw [if_neg (by rw [hlv]; intro h; exact absurd h.1 (by decide))]
      rw [hlv] at hm
      have HM := Lib.hid hm
      have HL := Lib.hid hlv
      clear hm hlv
      go_wp2_with fail
      refine wp_region_held_drew (S := fun Z => Below W6.heap.size W6 Z) rfl (Below.refl _ _).drew fun hS6 => ?_
      refine takeD (i := 0) (d := 38) (v := .pointer (some ⟨X.heap.size, 0, none⟩)) rfl rfl (by kernel_rfl) (by kernel_rfl) (by kernel_rfl) (fun c a w h => h) (yieldsIf_op rfl (fun w => by first | rfl | kernel_rfl | (go_simp; done))) hS6 ?_
      simp only [List.setIfInBounds_toArray, List.set_cons_succ, List.set_cons_zero]
      refine takeD (i := 1) (d := 39) (v := .bool false) rfl rfl (by kernel_rfl) (by kernel_rfl) (by kernel_rfl) (fun c a w h => h) (.inl ⟨by first | rfl | kernel_rfl, fun W' h => by have q0 : W'.cell? ⟨X.heap.size, 0, none⟩ = some (.bool false) := (by rw [(hF6 W' h).2.2.1.cell?, ← HL.out]; rfl); go_simp⟩) hS6 ?_
      simp only [List.setIfInBounds_toArray, List.set_cons_succ, List.set_cons_zero]
      refine takeD (i := 2) (d := 40) (v := .bool false) rfl rfl (by kernel_rfl) (by kernel_rfl) (by kernel_rfl) (fun c a w h => h) (yieldsIf_op rfl (fun w => by first | rfl | kernel_rfl | (go_simp; done))) hS6 ?_
      simp only [List.setIfInBounds_toArray, List.set_cons_succ, List.set_cons_zero]
      refine takeD (i := 3) (d := 41) (v := undef) rfl rfl (by kernel_rfl) (by kernel_rfl) (by kernel_rfl) (fun c a w h => h) (yieldsIf_skip (by first | rfl | kernel_rfl)) hS6 ?_
      simp only [List.setIfInBounds_toArray, List.set_cons_succ, List.set_cons_zero]
      refine takeD (i := 4) (d := 42) (v := undef) rfl rfl (by kernel_rfl) (by kernel_rfl) (by kernel_rfl) (fun c a w h => h) (yieldsIf_skip (by first | rfl | kernel_rfl)) hS6 ?_
      simp only [List.setIfInBounds_toArray, List.set_cons_succ, List.set_cons_zero]
      refine takeD (i := 5) (d := 43) (v := undef) rfl rfl (by kernel_rfl) (by kernel_rfl) (by kernel_rfl) (fun c a w h => h) (yieldsIf_skip (by first | rfl | kernel_rfl)) hS6 ?_
      simp only [List.setIfInBounds_toArray, List.set_cons_succ, List.set_cons_zero]
      refine takeD (i := 6) (d := 44) (v := undef) rfl rfl (by kernel_rfl) (by kernel_rfl) (by kernel_rfl) (fun c a w h => h) (yieldsIf_skip (by first | rfl | kernel_rfl)) hS6 ?_
      simp only [List.setIfInBounds_toArray, List.set_cons_succ, List.set_cons_zero]
      refine takeD (i := 7) (d := 45) (v := undef) rfl rfl (by kernel_rfl) (by kernel_rfl) (by kernel_rfl) (fun c a w h => h) (yieldsIf_skip (by first | rfl | kernel_rfl)) hS6 ?_
      simp only [List.setIfInBounds_toArray, List.set_cons_succ, List.set_cons_zero]
      refine takeD (i := 8) (d := 46) (v := undef) rfl rfl (by kernel_rfl) (by kernel_rfl) (by kernel_rfl) (fun c a w h => h) (yieldsIf_skip (by first | rfl | kernel_rfl)) hS6 ?_
      simp only [List.setIfInBounds_toArray, List.set_cons_succ, List.set_cons_zero]
      refine takeD (i := 9) (d := 47) (v := undef) rfl rfl (by kernel_rfl) (by kernel_rfl) (by kernel_rfl) (fun c a w h => h) (yieldsIf_skip (by first | rfl | kernel_rfl)) hS6 ?_
      simp only [List.setIfInBounds_toArray, List.set_cons_succ, List.set_cons_zero]
      refine takeD (i := 10) (d := 48) (v := undef) rfl rfl (by kernel_rfl) (by kernel_rfl) (by kernel_rfl) (fun c a w h => h) (yieldsIf_skip (by first | rfl | kernel_rfl)) hS6 ?_
      simp only [List.setIfInBounds_toArray, List.set_cons_succ, List.set_cons_zero]
      refine takeD (i := 11) (d := 49) (v := .bool false) rfl rfl (by kernel_rfl) (by kernel_rfl) (by kernel_rfl) (fun c a w h => h) (yieldsIf_op rfl (fun w => by first | rfl | kernel_rfl | (go_simp; done))) hS6 ?_
      simp only [List.setIfInBounds_toArray, List.set_cons_succ, List.set_cons_zero]
      refine wpAnyH_done (by kernel_rfl) ?_ _
      clear hS6
      go_wp2_with fail
      go_meet
      exact ⟨(Upd.refl _ _).drew, by rw [HM.out, ← HL.out]; exact HV6.out.below (Below.refl _ _).drew⟩
    | true =>
      have HL := Lib.hid hlv
      clear hlv
      go_wp2_with fail
      refine wp_region_held_drew (S := fun Z => Below W6.heap.size W6 Z) rfl (Below.refl _ _).drew fun hS6 => ?_
      refine takeD (i := 0) (d := 38) (v := .pointer (some ⟨X.heap.size, 0, none⟩)) rfl rfl (by kernel_rfl) (by kernel_rfl) (by kernel_rfl) (fun c a w h => h) (yieldsIf_op rfl (fun w => by first | rfl | kernel_rfl | (go_simp; done))) hS6 ?_
      simp only [List.setIfInBounds_toArray, List.set_cons_succ, List.set_cons_zero]
      refine takeD (i := 1) (d := 39) (v := .bool true) rfl rfl (by kernel_rfl) (by kernel_rfl) (by kernel_rfl) (fun c a w h => h) (.inl ⟨by first | rfl | kernel_rfl, fun W' h => by have q0 : W'.cell? ⟨X.heap.size, 0, none⟩ = some (.bool true) := (by rw [(hF6 W' h).2.2.1.cell?, ← HL.out]; rfl); go_simp⟩) hS6 ?_
      simp only [List.setIfInBounds_toArray, List.set_cons_succ, List.set_cons_zero]
      refine takeD (i := 2) (d := 40) (v := .bool true) rfl rfl (by kernel_rfl) (by kernel_rfl) (by kernel_rfl) (fun c a w h => h) (yieldsIf_op rfl (fun w => by first | rfl | kernel_rfl | (go_simp; done))) hS6 ?_
      simp only [List.setIfInBounds_toArray, List.set_cons_succ, List.set_cons_zero]
      refine takeD (i := 3) (d := 41) (v := .pointer (some ⟨X.heap.size, 1, none⟩)) rfl rfl (by kernel_rfl) (by kernel_rfl) (by kernel_rfl) (fun c a w h => h) (yieldsIf_op rfl (fun w => by first | rfl | kernel_rfl | (go_simp; done))) hS6 ?_
      simp only [List.setIfInBounds_toArray, List.set_cons_succ, List.set_cons_zero]
      refine takeD (i := 4) (d := 42) (v := .agg CV) rfl rfl (by kernel_rfl) (by kernel_rfl) (by kernel_rfl) (fun c a w h => h) (yieldsIf_load (f := Value.bool) (l := p.set) (aggVarsL _ HP.out) (.tmp 41) rfl X.heap.size 1 rfl (fun W' h => hV16 W' h) HCV.out rfl) hS6 ?_
      simp only [List.setIfInBounds_toArray, List.set_cons_succ, List.set_cons_zero]
      refine takeD (i := 5) (d := 43) (v := .agg C1) rfl rfl (by kernel_rfl) (by kernel_rfl) (by kernel_rfl) (fun c a w h => h) (yieldsIf_load (f := oV) (l := s.cs) (aggSt _) (.tmp 11) rfl (X.heap.size + 2) 0 rfl (fun W' h => (hF6 W' h).2.2.2.2.1.at) HC1.out rfl) hS6 ?_
      simp only [List.setIfInBounds_toArray, List.set_cons_succ, List.set_cons_zero]
      refine takeD (i := 8) (d := 46) (v := .pointer (some ⟨X.heap.size, 1, none⟩)) rfl rfl (by kernel_rfl) (by kernel_rfl) (by kernel_rfl) (fun c a w h => h) (yieldsIf_op rfl (fun w => by first | rfl | kernel_rfl | (go_simp; done))) hS6 ?_
      simp only [List.setIfInBounds_toArray, List.set_cons_succ, List.set_cons_zero]
      refine takeD (i := 9) (d := 47) (v := .agg CV) rfl rfl (by kernel_rfl) (by kernel_rfl) (by kernel_rfl) (fun c a w h => h) (yieldsIf_load (f := Value.bool) (l := p.set) (aggVarsL _ HP.out) (.tmp 46) rfl X.heap.size 1 rfl (fun W' h => hV16 W' h) HCV.out rfl) hS6 ?_
      simp only [List.setIfInBounds_toArray, List.set_cons_succ, List.set_cons_zero]
      refine wpAnyH_ready (rs := [6]) (by kernel_rfl) (by simp) (AllReadyH.cons rfl (fun K' hK => ?_) AllReadyH.nil)
      refine callD (d := 44) (g := 30) (args := #[.agg C1]) rfl rfl (by first | kernel_rfl | (simp [execOp, resolve, invoke, Act.eval]) | go_simp) ?_
      refine (hst.rd _ C1 HC1).mono ?_
      rintro e7 W7 ⟨C7, rfl, HC7, hB7⟩
      replace hS6 := hS6.trans (hB7.mono hS6.size)
      refine ⟨_, rfl, hK.out _ _ hS6 fun _ => ?_⟩
      clear hK hB7
      simp only [List.setIfInBounds_toArray, List.set_cons_succ, List.set_cons_zero]
      refine wpAnyH_ready (rs := [7]) (by kernel_rfl) (by simp) (AllReadyH.cons rfl (fun K' hK => ?_) AllReadyH.nil)
      refine callD (d := 45) (g := 29) (args := #[.agg CV, .agg C7]) rfl rfl (by first | kernel_rfl | (simp [execOp, resolve, invoke, Act.eval]) | go_simp) ?_
      refine (rOr _ p.set (rdV s) HP.out (rdV_length s) CV C7 HCV HC7).mono ?_
      rintro e8 W8 ⟨C8, rfl, HC8, hB8⟩
      replace hS6 := hS6.trans (hB8.mono hS6.size)
      refine ⟨_, rfl, hK.out _ _ hS6 fun _ => ?_⟩
      clear hK hB8
      simp only [List.setIfInBounds_toArray, List.set_cons_succ, List.set_cons_zero]
      refine takeD (i := 10) (d := 48) (v := .bool (orV p.set (rdV s) != p.set)) rfl rfl (by kernel_rfl) (by kernel_rfl) (by kernel_rfl) (fun c a w h => h) (yieldsIf_op rfl (fun w => exec_neq_vars (.tmp 45) (.tmp 47) rfl (orV p.set (rdV s)) p.set (orV_length HP.out (rdV_length s)) HP.out HC8.out HCV.out rfl rfl w)) hS6 ?_
      simp only [List.setIfInBounds_toArray, List.set_cons_succ, List.set_cons_zero]
      refine takeD (i := 11) (d := 49) (v := .bool (orV p.set (rdV s) != p.set)) rfl rfl (by kernel_rfl) (by kernel_rfl) (by kernel_rfl) (fun c a w h => h) (yieldsIf_op rfl (fun w => by first | rfl | kernel_rfl | (go_simp; done))) hS6 ?_
      simp only [List.setIfInBounds_toArray, List.set_cons_succ, List.set_cons_zero]
      refine wpAnyH_done (by kernel_rfl) ?_ _
      have hb8 := (hF6 W8 hS6)
      have cw := hb8.1.cw
      have hV8 := HV6.out.below hS6
      have HU8 := Lib.hid (Upd.of_below (V.E lp) hS6 (Nat.le_refl _))
      have HV8 := Lib.hid hV8
      clear hb8 hS6 hF6 hV16 hV8
      cases hne : (orV p.set (rdV s) != p.set) with
      | false =>
        have hm : markS s i p lf rp = { rp with reach := rp.reach.set i p.live } := by
          unfold markS
          simp only [if_neg hmk0]
          rw [if_neg (by intro h; simp at hne; exact h.2 hne)]
        have HM := Lib.hid hm
        clear hm hne
        go_wp2_with fail
        go_meet
        exact ⟨HU8.out, by rw [HM.out]; exact HV8.out⟩
      | true =>
        have hm : markS s i p lf rp = ({ rp with reach := rp.reach.set i p.live } : Rp).wrong i 170 := by
          unfold markS
          simp only [if_neg hmk0]
          rw [if_pos ⟨HL.out, by simpa using hne⟩]
        have HM := Lib.hid hm
        clear hm hne
        go_wp2_with fail
        refine (rWrong W8 V.rb _ { rp with reach := rp.reach.set i p.live } i 170 HV8.out.rep).mono ?_
        rintro en W9 ⟨rfl, hr9, hu9⟩
        have hV9 : WVar V S W9 lp lf (({ rp with reach := rp.reach.set i p.live } : Rp).wrong i 170) := by
          have h := HV8.out
          refine ⟨hr9, ?_, ?_, ?_⟩
          · have := h.reach.upd hu9 (by show ¬ V.qb = V.rb; exact fun e => hF0.out.ne.1 e.symm)
            unfold Rp.wrong; split <;> exact this
          · have := h.len
            unfold Rp.wrong; split <;> exact this
          · rcases h.left with h1 | ⟨l, b, h1, h2, h3⟩
            · exact .inl h1
            · exact .inr ⟨l, b, h1, h2, h3.upd hu9 (by show ¬ l = V.rb; exact (hL0.out l h1).2.2.1)⟩
        have hU9 := HU8.out.trans hu9 (fun k _ h => .inl h)
        have H9 := Lib.hid (And.intro hU9 hV9)
        clear hr9 hu9 hV9 hU9 cw
        go_wp2_with fail
        go_meet
        exact ⟨H9.out.1, by rw [HM.out]; exact H9.out.2⟩
  case rest =>
    obtain ⟨hU7, hV7⟩ := hcut
    clear e0
    have HFZ : Hid (∀ Z, Upd (V.E lp) wc Z → WFix V S B Z ∧ Upd (V.E lp) X Z ∧ Row Value.bool Z X.heap.size 105 p.cs ∧ Row Value.bool Z (X.heap.size + 1) 105 zPl ∧ Row oV Z (X.heap.size + 2) 45 s.cs ∧ X.heap.size + 3 ≤ Z.heap.size) := Lib.hid fun Z hZ => HF.out Z (hU7.trans hZ (fun k _ h => h))
    have HV7 := Lib.hid hV7
    clear hU7 hV7 HF HV6 hs6
    have e0 : wc.cell? ⟨X.heap.size + 2, 0, none⟩ = some (.int .i64 15) := by rw [(HFZ.out wc (Upd.refl _ _)).2.2.2.2.1.cell?]; rw [show s.cs[0]? = some (oi s.kind) from rfl, hk]; rfl
    have hst1 : stp S i t e p lf rp = (⟨false, zV16⟩, lf, markS s i p lf rp) := by unfold stp; simp only [at'_of hs, hk]; rfl
    have HST := Lib.hid hst1
    obtain ⟨hF7, hU7, hR7, hZ7, hs7, hz7⟩ := HFZ.out wc (Upd.refl _ _)
    have HU7 := Lib.hid hU7
    clear hF7 hU7 hR7 hs7 hst1
    go_wp2_with (first
      | ((with_reducible refine store_agg (f := Value.bool) (l := zPl) (l' := zPl) (t := 105) (C := zPlC) (aggPl _ rfl) (.tmp 10) (.tmp 96) ?_ ?_ (X.heap.size + 1) ?_ ?_ ?_ hZ7 ?_ bV_one ?_); rfl; rfl; rfl; rfl; rfl; rfl; intro Wa hsa hGa hza))
    refine bodyPost_ret (results_agg (f := Value.bool) (l := zPl) rfl _ (aggPl _ rfl) (X.heap.size + 1) 0 rfl hsa.at) rfl ?_
    rw [HST.out]
    exact ⟨_, rfl, Lib.hid rfl, Lib.hid rfl, HU7.out.grown hGa (fun b e => by cases e; exact .inr (by omega)), HV7.out.grow HEn.out hGa (by omega)⟩
end Go.Proofs.YtllomcmhkocdfaaGreatDoor

/- The walk through a statement: loops. -/
namespace Go.Proofs.YtllomcmhkocdfaaGreatDoor
open Go.RowKit Mem
set_option maxRecDepth 100000

set_option maxHeartbeats 16000000 in
theorem rSt_Loop {S : List St} {B : List (List Int)} (V : WEnv) (hS : S.length ≤ 64) (i : Nat) (s : St) (hs : S[i]? = some s) (hst : StWalk s) (t e : Blk) (hk : s.kind = 11) (IHt : BlkC V S B t s.t) (IHe : BlkC V S B e s.e) : StC V S B i t e := by
  intro X p hp lp lf rp C HC hF hL hV
  obtain ⟨sb, so, hsp, hA0, hsbl, hin⟩ := hF.pg.stmt hs
  have hil : i < S.length := (List.getElem?_eq_some_iff.1 hs).1
  have hi1 : (i : Int) < (S.length : Int) := by omega
  have hE := hV.lts
  have hF0 := Lib.hid hF
  have hV0 := Lib.hid hV
  have hL0 := Lib.hid hL
  have HP := Lib.hid hp
  have HSD := Lib.hid (hF.pg.sd s (List.mem_of_getElem? hs))
  have c0 := hF.box.c0
  rw [hsp, hF.pg.ns] at c0
  have hAX : At oV X sb (so + i * 33) s.cs := hA0.below hF.below hsbl
  have hsX : sb < X.heap.size := Nat.lt_of_lt_of_le hsbl hF.below.size
  have hpbX := hF.top.1
  have hrbX := hV.rep.lt
  have hqbX := hV.reach.lt
  have r0 : X.cell? ⟨V.rb, 0, none⟩ = some (.slice (some ⟨V.qb, 0, none⟩) S.length S.length) := by rw [hV.rep.cell?]; rfl
  have hq0 : ∃ b, X.cell? ⟨V.qb, i, none⟩ = some (.bool b) := ⟨_, by rw [hV.reach.cell?, List.getElem?_eq_getElem (by rw [hV.len]; exact hil)]; rfl⟩
  obtain ⟨bq, q0⟩ := hq0
  have qf := hV.reach.frozen i
  clear hF hV hL hp hA0 hsp hin hsbl
  have HC0 := Lib.hid (And.intro c0 (And.intro r0 (And.intro q0 qf)))
  clear c0 r0 q0 qf
  go_enter Tryz.func47, Tryz.ntmps47
  go_upto_region 1 with (fail)
  obtain ⟨W, hW, hR, hZ, hB, hsW⟩ : ∃ W, (X.alloc (.cells C 105)).alloc (.cells zPlC 105) = W ∧ Row Value.bool W X.heap.size 105 p.cs ∧ Row Value.bool W (X.heap.size + 1) 105 zPl ∧ Below X.heap.size X W ∧ W.heap.size = X.heap.size + 2 :=
    ⟨_, rfl, Row.alloc (Row.new X _ (by rw [HC.out])) _, heap_new' _ _ _ (by simp), ((Below.refl _ _).alloc (Nat.le_refl _) _).alloc (by simp) _, by simp⟩
  rw [hW]
  clear hW
  have c0 := (hB.cell (p := ⟨V.pb, 0, none⟩) hpbX).trans HC0.out.1
  have hA1 := hAX.below hB hsX
  obtain ⟨C1, HC1⟩ : ∃ C1, Hid (C1 = (s.cs.map oV).toArray) := ⟨_, Lib.hid rfl⟩
  have hZ1 : Row oV (W.alloc (.cells zStmtC 45)) (X.heap.size + 2) 45 (stC 0 0 ⟨#[]⟩ 0 0) := by rw [← hsW]; exact Row.new _ _ rfl
  go_upto_region 2 with (first
    | ((with_reducible refine load_agg (f := oV) (l := s.cs) (aggSt _) (.tmp 20) ?_ ?_ sb (so + i * 33) ?_ hA1 HC1.out ?_); rfl; rfl; rfl)
    | ((with_reducible refine store_agg (f := oV) (l := stC 0 0 ⟨#[]⟩ 0 0) (l' := s.cs) (t := 45) (C := C1) (aggSt _) (.tmp 11) (.tmp 21) ?_ ?_ (X.heap.size + 2) ?_ ?_ ?_ hZ1 ?_ oV_one ?_); rfl; rfl; rfl; exact HC1.out; rfl; rfl; intro W5 hs5 hG5 hz5))
  have hB5 : Below X.heap.size X W5 := (hB.alloc hB.size (.cells zStmtC 45)).grown hG5 (by simp; omega) (fun k e => by cases e; omega)
  have hR5 : Row Value.bool W5 X.heap.size 105 p.cs := (hR.alloc _).grown hG5 (by simp)
  have hZ5 : Row Value.bool W5 (X.heap.size + 1) 105 zPl := (hZ.alloc _).grown hG5 (by simp)
  have hs5' : X.heap.size + 3 ≤ W5.heap.size := Nat.lt_of_lt_of_le (by omega) hs5.lt
  clear c0 hA1 hZ1 hR hZ hB hG5 hz5 hsW hAX
  have r0 := (hB5.cell (p := ⟨V.rb, 0, none⟩) hrbX).trans HC0.out.2.1
  have q0 := (hB5.cell (p := ⟨V.qb, i, none⟩) hqbX).trans HC0.out.2.2.1
  have qf := (hB5.frozen (p := ⟨V.qb, i, none⟩) hqbX).trans HC0.out.2.2.2
  have d0 : W5.cell? ⟨X.heap.size, 0, none⟩ = some (.bool p.live) := by rw [hR5.cell?]; rfl
  have HX := Lib.hid (And.intro hB5 (And.intro hR5 (And.intro hZ5 hs5)))
  clear hB5 hR5 hZ5 hs5
  go_upto_region 3 with (fail)
  obtain ⟨W6, hW6⟩ : ∃ W6, W5.setCell ⟨V.qb, i, none⟩ (.bool p.live) = W6 := ⟨_, rfl⟩
  have hs6 : X.heap.size + 3 ≤ W6.heap.size := by rw [← hW6]; simpa using hs5'
  have HV6 : Hid (WVar V S W6 lp lf { rp with reach := rp.reach.set i p.live }) := Lib.hid (by rw [← hW6]; exact (hV0.out.below HX.out.1).setReach (hF0.out.below' HX.out.1) hL0.out i p.live)
  have hU6 : Upd (V.E lp) X W6 := by rw [← hW6]; exact (Upd.of_below _ HX.out.1 (Nat.le_refl _)).set (.inl (.inr (.inl rfl))) _ _
  have HF : Hid (∀ Z, Upd (V.E lp) W6 Z → WFix V S B Z ∧ Upd (V.E lp) X Z ∧ Row Value.bool Z X.heap.size 105 p.cs ∧ Row Value.bool Z (X.heap.size + 1) 105 zPl ∧ Row oV Z (X.heap.size + 2) 45 s.cs ∧ X.heap.size + 3 ≤ Z.heap.size) := Lib.hid fun Z hZ => by
    obtain ⟨h1, h2, h3, h4⟩ := HX.out
    have hU : Upd (V.E lp) X Z := hU6.trans hZ (fun k _ h => h)
    have n : ∀ k, X.heap.size ≤ k → ¬ V.E lp k := fun k hk h => absurd (hE k h) (by omega)
    have k2 : Row Value.bool W6 X.heap.size 105 p.cs := by rw [← hW6]; exact h2.set_other (by omega) _ _
    have k3 : Row Value.bool W6 (X.heap.size + 1) 105 zPl := by rw [← hW6]; exact h3.set_other (by omega) _ _
    have k4 : Row oV W6 (X.heap.size + 2) 45 s.cs := by rw [← hW6]; exact h4.set_other (by omega) _ _
    exact ⟨hF0.out.upd hU hL0.out, hU, k2.upd hZ (n _ (Nat.le_refl _)), k3.upd hZ (n _ (by omega)), k4.upd hZ (n _ (by omega)), Nat.le_trans hs6 hZ.size⟩
  rw [hW6]
  clear hW6 r0 q0 qf d0 hs5' HX hU6 HC0
  have hEn : ∀ k, X.heap.size ≤ k → ¬ V.E lp k := fun k hk h => absurd (hE k h) (by omega)
  have HEn := Lib.hid hEn
  clear hEn hE
  have e0 : W6.cell? ⟨X.heap.size + 2, 0, none⟩ = some (.int .i64 s.kind) := by rw [(HF.out W6 (Upd.refl _ _)).2.2.2.2.1.cell?]; rfl
  rw [hk] at e0
  have hmk0 : ¬ (s.kind = 12 ∧ lf = none) := fun h => by rw [hk] at h; exact absurd h.1 (by decide)
  go_upto_if 34 with (fail)
  go_cut [52] (fun _ wx => Upd (V.E lp) W6 wx ∧ WVar V S wx lp lf (markS s i p lf rp))
  case first =>
    clear e0
    have hF6 : ∀ Z, Below W6.heap.size W6 Z → WFix V S B Z ∧ Upd (V.E lp) X Z ∧ Row Value.bool Z X.heap.size 105 p.cs ∧ Row Value.bool Z (X.heap.size + 1) 105 zPl ∧ Row oV Z (X.heap.size + 2) 45 s.cs ∧ X.heap.size + 3 ≤ Z.heap.size := fun Z hZ => HF.out Z (Upd.of_below _ hZ (Nat.le_refl _))
    obtain ⟨CV, HCV⟩ : ∃ CV, Hid (CV = (p.set.map Value.bool).toArray) := ⟨_, Lib.hid rfl⟩
    have hV16 : ∀ Z, Below W6.heap.size W6 Z → At Value.bool Z X.heap.size 1 p.set := fun Z hZ i hi => by rw [(hF6 Z hZ).2.2.1.cell?, Nat.add_comm 1 i]; rfl
    cases hlv : p.live with
    | false =>
      have hm : markS s i p lf rp = { rp with reach := rp.reach.set i p.live } := by
        unfold markS
        simp only [if_neg hmk0]
        rw [if_neg (by rw [hlv]; intro h; exact absurd h.1 (by decide))]
      rw [hlv] at hm
      have HM := Lib.hid hm
      have HL := Lib.hid hlv
      clear hm hlv
      go_wp2_with fail
      refine wp_region_held_drew (S := fun Z => Below W6.heap.size W6 Z) rfl (Below.refl _ _).drew fun hS6 => ?_
      refine takeD (i := 0) (d := 38) (v := .pointer (some ⟨X.heap.size, 0, none⟩)) rfl rfl (by kernel_rfl) (by kernel_rfl) (by kernel_rfl) (fun c a w h => h) (yieldsIf_op rfl (fun w => by first | rfl | kernel_rfl | (go_simp; done))) hS6 ?_
      simp only [List.setIfInBounds_toArray, List.set_cons_succ, List.set_cons_zero]
      refine takeD (i := 1) (d := 39) (v := .bool false) rfl rfl (by kernel_rfl) (by kernel_rfl) (by kernel_rfl) (fun c a w h => h) (.inl ⟨by first | rfl | kernel_rfl, fun W' h => by have q0 : W'.cell? ⟨X.heap.size, 0, none⟩ = some (.bool false) := (by rw [(hF6 W' h).2.2.1.cell?, ← HL.out]; rfl); go_simp⟩) hS6 ?_
      simp only [List.setIfInBounds_toArray, List.set_cons_succ, List.set_cons_zero]
      refine takeD (i := 2) (d := 40) (v := .bool false) rfl rfl (by kernel_rfl) (by kernel_rfl) (by kernel_rfl) (fun c a w h => h) (yieldsIf_op rfl (fun w => by first | rfl | kernel_rfl | (go_simp; done))) hS6 ?_
      simp only [List.setIfInBounds_toArray, List.set_cons_succ, List.set_cons_zero]
      refine takeD (i := 3) (d := 41) (v := undef) rfl rfl (by kernel_rfl) (by kernel_rfl) (by kernel_rfl) (fun c a w h => h) (yieldsIf_skip (by first | rfl | kernel_rfl)) hS6 ?_
      simp only [List.setIfInBounds_toArray, List.set_cons_succ, List.set_cons_zero]
      refine takeD (i := 4) (d := 42) (v := undef) rfl rfl (by kernel_rfl) (by kernel_rfl) (by kernel_rfl) (fun c a w h => h) (yieldsIf_skip (by first | rfl | kernel_rfl)) hS6 ?_
      simp only [List.setIfInBounds_toArray, List.set_cons_succ, List.set_cons_zero]
      refine takeD (i := 5) (d := 43) (v := undef) rfl rfl (by kernel_rfl) (by kernel_rfl) (by kernel_rfl) (fun c a w h => h) (yieldsIf_skip (by first | rfl | kernel_rfl)) hS6 ?_
      simp only [List.setIfInBounds_toArray, List.set_cons_succ, List.set_cons_zero]
      refine takeD (i := 6) (d := 44) (v := undef) rfl rfl (by kernel_rfl) (by kernel_rfl) (by kernel_rfl) (fun c a w h => h) (yieldsIf_skip (by first | rfl | kernel_rfl)) hS6 ?_
      simp only [List.setIfInBounds_toArray, List.set_cons_succ, List.set_cons_zero]
      refine takeD (i := 7) (d := 45) (v := undef) rfl rfl (by kernel_rfl) (by kernel_rfl) (by kernel_rfl) (fun c a w h => h) (yieldsIf_skip (by first | rfl | kernel_rfl)) hS6 ?_
      simp only [List.setIfInBounds_toArray, List.set_cons_succ, List.set_cons_zero]
      refine takeD (i := 8) (d := 46) (v := undef) rfl rfl (by kernel_rfl) (by kernel_rfl) (by kernel_rfl) (fun c a w h => h) (yieldsIf_skip (by first | rfl | kernel_rfl)) hS6 ?_
      simp only [List.setIfInBounds_toArray, List.set_cons_succ, List.set_cons_zero]
      refine takeD (i := 9) (d := 47) (v := undef) rfl rfl (by kernel_rfl) (by kernel_rfl) (by kernel_rfl) (fun c a w h => h) (yieldsIf_skip (by first | rfl | kernel_rfl)) hS6 ?_
      simp only [List.setIfInBounds_toArray, List.set_cons_succ, List.set_cons_zero]
      refine takeD (i := 10) (d := 48) (v := undef) rfl rfl (by kernel_rfl) (by kernel_rfl) (by kernel_rfl) (fun c a w h => h) (yieldsIf_skip (by first | rfl | kernel_rfl)) hS6 ?_
      simp only [List.setIfInBounds_toArray, List.set_cons_succ, List.set_cons_zero]
      refine takeD (i := 11) (d := 49) (v := .bool false) rfl rfl (by kernel_rfl) (by kernel_rfl) (by kernel_rfl) (fun c a w h => h) (yieldsIf_op rfl (fun w => by first | rfl | kernel_rfl | (go_simp; done))) hS6 ?_
      simp only [List.setIfInBounds_toArray, List.set_cons_succ, List.set_cons_zero]
      refine wpAnyH_done (by kernel_rfl) ?_ _
      clear hS6
      go_wp2_with fail
      go_meet
      exact ⟨(Upd.refl _ _).drew, by rw [HM.out, ← HL.out]; exact HV6.out.below (Below.refl _ _).drew⟩
    | true =>
      have HL := Lib.hid hlv
      clear hlv
      go_wp2_with fail
      refine wp_region_held_drew (S := fun Z => Below W6.heap.size W6 Z) rfl (Below.refl _ _).drew fun hS6 => ?_
      refine takeD (i := 0) (d := 38) (v := .pointer (some ⟨X.heap.size, 0, none⟩)) rfl rfl (by kernel_rfl) (by kernel_rfl) (by kernel_rfl) (fun c a w h => h) (yieldsIf_op rfl (fun w => by first | rfl | kernel_rfl | (go_simp; done))) hS6 ?_
      simp only [List.setIfInBounds_toArray, List.set_cons_succ, List.set_cons_zero]
      refine takeD (i := 1) (d := 39) (v := .bool true) rfl rfl (by kernel_rfl) (by kernel_rfl) (by kernel_rfl) (fun c a w h => h) (.inl ⟨by first | rfl | kernel_rfl, fun W' h => by have q0 : W'.cell? ⟨X.heap.size, 0, none⟩ = some (.bool true) := (by rw [(hF6 W' h).2.2.1.cell?, ← HL.out]; rfl); go_simp⟩) hS6 ?_
      simp only [List.setIfInBounds_toArray, List.set_cons_succ, List.set_cons_zero]
      refine takeD (i := 2) (d := 40) (v := .bool true) rfl rfl (by kernel_rfl) (by kernel_rfl) (by kernel_rfl) (fun c a w h => h) (yieldsIf_op rfl (fun w => by first | rfl | kernel_rfl | (go_simp; done))) hS6 ?_
      simp only [List.setIfInBounds_toArray, List.set_cons_succ, List.set_cons_zero]
      refine takeD (i := 3) (d := 41) (v := .pointer (some ⟨X.heap.size, 1, none⟩)) rfl rfl (by kernel_rfl) (by kernel_rfl) (by kernel_rfl) (fun c a w h => h) (yieldsIf_op rfl (fun w => by first | rfl | kernel_rfl | (go_simp; done))) hS6 ?_
      simp only [List.setIfInBounds_toArray, List.set_cons_succ, List.set_cons_zero]
      refine takeD (i := 4) (d := 42) (v := .agg CV) rfl rfl (by kernel_rfl) (by kernel_rfl) (by kernel_rfl) (fun c a w h => h) (yieldsIf_load (f := Value.bool) (l := p.set) (aggVarsL _ HP.out) (.tmp 41) rfl X.heap.size 1 rfl (fun W' h => hV16 W' h) HCV.out rfl) hS6 ?_
      simp only [List.setIfInBounds_toArray, List.set_cons_succ, List.set_cons_zero]
      refine takeD (i := 5) (d := 43) (v := .agg C1) rfl rfl (by kernel_rfl) (by kernel_rfl) (by kernel_rfl) (fun c a w h => h) (yieldsIf_load (f := oV) (l := s.cs) (aggSt _) (.tmp 11) rfl (X.heap.size + 2) 0 rfl (fun W' h => (hF6 W' h).2.2.2.2.1.at) HC1.out rfl) hS6 ?_
      simp only [List.setIfInBounds_toArray, List.set_cons_succ, List.set_cons_zero]
      refine takeD (i := 8) (d := 46) (v := .pointer (some ⟨X.heap.size, 1, none⟩)) rfl rfl (by kernel_rfl) (by kernel_rfl) (by kernel_rfl) (fun c a w h => h) (yieldsIf_op rfl (fun w => by first | rfl | kernel_rfl | (go_simp; done))) hS6 ?_
      simp only [List.setIfInBounds_toArray, List.set_cons_succ, List.set_cons_zero]
      refine takeD (i := 9) (d := 47) (v := .agg CV) rfl rfl (by kernel_rfl) (by kernel_rfl) (by kernel_rfl) (fun c a w h => h) (yieldsIf_load (f := Value.bool) (l := p.set) (aggVarsL _ HP.out) (.tmp 46) rfl X.heap.size 1 rfl (fun W' h => hV16 W' h) HCV.out rfl) hS6 ?_
      simp only [List.setIfInBounds_toArray, List.set_cons_succ, List.set_cons_zero]
      refine wpAnyH_ready (rs := [6]) (by kernel_rfl) (by simp) (AllReadyH.cons rfl (fun K' hK => ?_) AllReadyH.nil)
      refine callD (d := 44) (g := 30) (args := #[.agg C1]) rfl rfl (by first | kernel_rfl | (simp [execOp, resolve, invoke, Act.eval]) | go_simp) ?_
      refine (hst.rd _ C1 HC1).mono ?_
      rintro e7 W7 ⟨C7, rfl, HC7, hB7⟩
      replace hS6 := hS6.trans (hB7.mono hS6.size)
      refine ⟨_, rfl, hK.out _ _ hS6 fun _ => ?_⟩
      clear hK hB7
      simp only [List.setIfInBounds_toArray, List.set_cons_succ, List.set_cons_zero]
      refine wpAnyH_ready (rs := [7]) (by kernel_rfl) (by simp) (AllReadyH.cons rfl (fun K' hK => ?_) AllReadyH.nil)
      refine callD (d := 45) (g := 29) (args := #[.agg CV, .agg C7]) rfl rfl (by first | kernel_rfl | (simp [execOp, resolve, invoke, Act.eval]) | go_simp) ?_
      refine (rOr _ p.set (rdV s) HP.out (rdV_length s) CV C7 HCV HC7).mono ?_
      rintro e8 W8 ⟨C8, rfl, HC8, hB8⟩
      replace hS6 := hS6.trans (hB8.mono hS6.size)
      refine ⟨_, rfl, hK.out _ _ hS6 fun _ => ?_⟩
      clear hK hB8
      simp only [List.setIfInBounds_toArray, List.set_cons_succ, List.set_cons_zero]
      refine takeD (i := 10) (d := 48) (v := .bool (orV p.set (rdV s) != p.set)) rfl rfl (by kernel_rfl) (by kernel_rfl) (by kernel_rfl) (fun c a w h => h) (yieldsIf_op rfl (fun w => exec_neq_vars (.tmp 45) (.tmp 47) rfl (orV p.set (rdV s)) p.set (orV_length HP.out (rdV_length s)) HP.out HC8.out HCV.out rfl rfl w)) hS6 ?_
      simp only [List.setIfInBounds_toArray, List.set_cons_succ, List.set_cons_zero]
      refine takeD (i := 11) (d := 49) (v := .bool (orV p.set (rdV s) != p.set)) rfl rfl (by kernel_rfl) (by kernel_rfl) (by kernel_rfl) (fun c a w h => h) (yieldsIf_op rfl (fun w => by first | rfl | kernel_rfl | (go_simp; done))) hS6 ?_
      simp only [List.setIfInBounds_toArray, List.set_cons_succ, List.set_cons_zero]
      refine wpAnyH_done (by kernel_rfl) ?_ _
      have hb8 := (hF6 W8 hS6)
      have cw := hb8.1.cw
      have hV8 := HV6.out.below hS6
      have HU8 := Lib.hid (Upd.of_below (V.E lp) hS6 (Nat.le_refl _))
      have HV8 := Lib.hid hV8
      clear hb8 hS6 hF6 hV16 hV8
      cases hne : (orV p.set (rdV s) != p.set) with
      | false =>
        have hm : markS s i p lf rp = { rp with reach := rp.reach.set i p.live } := by
          unfold markS
          simp only [if_neg hmk0]
          rw [if_neg (by intro h; simp at hne; exact h.2 hne)]
        have HM := Lib.hid hm
        clear hm hne
        go_wp2_with fail
        go_meet
        exact ⟨HU8.out, by rw [HM.out]; exact HV8.out⟩
      | true =>
        have hm : markS s i p lf rp = ({ rp with reach := rp.reach.set i p.live } : Rp).wrong i 170 := by
          unfold markS
          simp only [if_neg hmk0]
          rw [if_pos ⟨HL.out, by simpa using hne⟩]
        have HM := Lib.hid hm
        clear hm hne
        go_wp2_with fail
        refine (rWrong W8 V.rb _ { rp with reach := rp.reach.set i p.live } i 170 HV8.out.rep).mono ?_
        rintro en W9 ⟨rfl, hr9, hu9⟩
        have hV9 : WVar V S W9 lp lf (({ rp with reach := rp.reach.set i p.live } : Rp).wrong i 170) := by
          have h := HV8.out
          refine ⟨hr9, ?_, ?_, ?_⟩
          · have := h.reach.upd hu9 (by show ¬ V.qb = V.rb; exact fun e => hF0.out.ne.1 e.symm)
            unfold Rp.wrong; split <;> exact this
          · have := h.len
            unfold Rp.wrong; split <;> exact this
          · rcases h.left with h1 | ⟨l, b, h1, h2, h3⟩
            · exact .inl h1
            · exact .inr ⟨l, b, h1, h2, h3.upd hu9 (by show ¬ l = V.rb; exact (hL0.out l h1).2.2.1)⟩
        have hU9 := HU8.out.trans hu9 (fun k _ h => .inl h)
        have H9 := Lib.hid (And.intro hU9 hV9)
        clear hr9 hu9 hV9 hU9 cw
        go_wp2_with fail
        go_meet
        exact ⟨H9.out.1, by rw [HM.out]; exact H9.out.2⟩
  case rest =>
    obtain ⟨hU7, hV7⟩ := hcut
    clear e0
    have HFZ : Hid (∀ Z, Upd (V.E lp) wc Z → WFix V S B Z ∧ Upd (V.E lp) X Z ∧ Row Value.bool Z X.heap.size 105 p.cs ∧ Row Value.bool Z (X.heap.size + 1) 105 zPl ∧ Row oV Z (X.heap.size + 2) 45 s.cs ∧ X.heap.size + 3 ≤ Z.heap.size) := Lib.hid fun Z hZ => HF.out Z (hU7.trans hZ (fun k _ h => h))
    have HV7 := Lib.hid hV7
    clear hU7 hV7 HF HV6 hs6
    have e0 : wc.cell? ⟨X.heap.size + 2, 0, none⟩ = some (.int .i64 11) := by rw [(HFZ.out wc (Upd.refl _ _)).2.2.2.2.1.cell?]; rw [show s.cs[0]? = some (oi s.kind) from rfl, hk]; rfl
    obtain ⟨hF7, hU7, hR7, hZ7, hs7, hz7⟩ := HFZ.out wc (Upd.refl _ _)
    have b0 : (wc.alloc (.cells #[.bool false] 4)).cell? ⟨V.bb, 0, none⟩ = some (.func (.func 49) #[] #[.pointer (some ⟨V.pb, 0, none⟩), .pointer (some ⟨V.tb, 0, none⟩)]) := (((Below.refl wc.heap.size wc).alloc (Nat.le_refl _) _).cell (p := ⟨V.bb, 0, none⟩) hF7.top.2.2.1).trans hF7.cb
    have e31 : (wc.alloc (.cells #[.bool false] 4)).cell? ⟨X.heap.size + 2, 31, none⟩ = some (.int .i64 s.t) := by rw [(hs7.alloc (.cells #[.bool false] 4)).cell?]; rfl
    have hR8 : Row Value.bool (wc.alloc (.cells #[.bool false] 4)) X.heap.size 105 p.cs := hR7.alloc _
    have hN : Row Value.bool (wc.alloc (.cells #[.bool false] 4)) wc.heap.size 4 [false] := Row.new _ _ rfl
    have hBa : Below wc.heap.size wc (wc.alloc (.cells #[.bool false] 4)) := (Below.refl _ _).alloc (Nat.le_refl _) _
    have hFa := hF7.below' hBa
    have hVa0 := HV7.out.below hBa
    have hlt7 := HV7.out.lts
    have hVa : WVar V S (wc.alloc (.cells #[.bool false] 4)) (some wc.heap.size) (some false) (markS s i p lf rp) := ⟨hVa0.rep, hVa0.reach, hVa0.len, .inr ⟨_, false, rfl, rfl, hN⟩⟩
    have hrq : V.rb < wc.heap.size ∧ V.qb < wc.heap.size := ⟨HV7.out.rep.lt, HV7.out.reach.lt⟩
    have hLa : LpOk V (some wc.heap.size) := by
      intro l hl
      injection hl with hl
      have := hF7.top
      have h0 := hF7.below.size
      subst hl
      omega
    have hz8 : X.heap.size + 3 ≤ wc.heap.size := hz7
    have hUa : Upd (V.E lp) X (wc.alloc (.cells #[.bool false] 4)) := hU7.alloc _
    have HL8 := HV7.out.left
    have hst1 : stp S i t e p lf rp = (⟨(wk S t p (some false) (markS s i p lf rp)).2.1.getD false, p.set⟩, lf, (wk S t p (some false) (markS s i p lf rp)).2.2) := by unfold stp; simp only [at'_of hs, hk]; rfl
    have HST := Lib.hid hst1
    have HA := Lib.hid (And.intro hFa (And.intro hVa (And.intro hLa (And.intro hUa HL8))))
    have HRN := Lib.hid (And.intro (hZ7.alloc (.cells #[.bool false] 4)) hN)
    clear hF7 hU7 hR7 hZ7 hs7 hN hBa hFa hVa0 hlt7 hVa hLa hUa HL8 hst1 hz7
    go_wp2_with (first
      | ((with_reducible refine load_agg (f := Value.bool) (l := p.cs) (aggPl _ (p.cs_length HP.out)) (.tmp 8) ?_ ?_ X.heap.size 0 ?_ hR8.at HC.out ?_); rfl; rfl; rfl))
    refine (IHt _ p HP.out (some wc.heap.size) (some false) _ C HC HA.out.1 HA.out.2.2.1 HA.out.2.1).mono ?_
    rintro ev Wa ⟨Ca, rfl, HCa, HLa, hUa, hVa⟩
    clear b0 e31
    generalize hwk : wk S t p (some false) (markS s i p lf rp) = a at HST HCa HLa hVa
    clear hwk
    obtain ⟨pa, lfa, ra⟩ := a
    simp only at HST HCa HLa hVa
    have hleft : ∃ b, lfa = some b ∧ Row Value.bool Wa wc.heap.size 4 [b] := by
      rcases hVa.left with ⟨h, _⟩ | ⟨l, b, h1, h2, h3⟩
      · cases h
      · injection h1 with h1; subst h1; exact ⟨b, h2, h3⟩
    obtain ⟨b, rfl, hNb⟩ := hleft
    have n13 : ∀ k, k < X.heap.size + 3 → ¬ V.E lp k → ¬ V.E (some wc.heap.size) k := by
      intro k hk2 hn he
      rcases he with he | he | he
      · exact hn (.inl he)
      · exact hn (.inr (.inl he))
      · injection he with he; omega
    have hR9 : Row Value.bool Wa X.heap.size 105 p.cs := hR8.upd hUa (n13 _ (by omega) (HEn.out _ (Nat.le_refl _)))
    have hZ9 : Row Value.bool Wa (X.heap.size + 1) 105 zPl := HRN.out.1.upd hUa (n13 _ (by omega) (HEn.out _ (by omega)))
    have hUX : Upd (V.E lp) X Wa := HA.out.2.2.2.1.trans hUa (fun k hk2 he => by
      rcases he with he | he | he
      · exact .inl he
      · exact .inr (.inl he)
      · injection he with he; omega)
    have hVX : WVar V S Wa lp lf ra := by
      refine ⟨hVa.rep, hVa.reach, hVa.len, ?_⟩
      rcases HA.out.2.2.2.2 with h1 | ⟨l, b', h1, h2, h3⟩
      · exact .inl h1
      · refine .inr ⟨l, b', h1, h2, (h3.alloc (.cells #[.bool false] 4)).upd hUa ?_⟩
        intro he
        have h4 := hL0.out l h1
        rcases he with he | he | he
        · exact h4.2.2.1 he
        · exact h4.2.2.2.1 he
        · injection he with he; have := h3.lt; omega
    have HUV := Lib.hid (And.intro hUX hVX)
    have q0 : Wa.cell? ⟨wc.heap.size, 0, none⟩ = some (.bool b) := by rw [hNb.cell?]; rfl
    have h16 : At Value.bool Wa X.heap.size 1 p.set := fun i hi => by rw [hR9.cell?, Nat.add_comm 1 i]; rfl
    obtain ⟨CV, HCV⟩ : ∃ CV, Hid (CV = (p.set.map Value.bool).toArray) := ⟨_, Lib.hid rfl⟩
    obtain ⟨D, HD⟩ : ∃ D, Hid (D = ((b :: p.set).map Value.bool).toArray) := ⟨_, Lib.hid rfl⟩
    have HLD : Hid ((b :: p.set).length = 17) := Lib.hid (by simp [HP.out])
    clear hR8 HCa HLa hUa hVa hNb hR9 n13 hUX hVX HRN HA
    go_wp2_with (first
      | ((with_reducible refine load_agg (f := Value.bool) (l := p.set) (aggVarsL _ HP.out) (.tmp 79) ?_ ?_ X.heap.size 1 ?_ h16 HCV.out ?_); rfl; rfl; rfl)
      | ((with_reducible refine build_place (.tmp 78) (.tmp 80) ?_ ?_ b p.set HP.out ?_ HCV.out ?_ HD.out ?_); rfl; rfl; rfl; rfl)
      | ((with_reducible refine store_agg (f := Value.bool) (l := zPl) (l' := b :: p.set) (t := 105) (C := D) (aggPl _ HLD.out) (.tmp 10) (.tmp 81) ?_ ?_ (X.heap.size + 1) ?_ ?_ ?_ hZ9 ?_ bV_one ?_); rfl; rfl; rfl; exact HD.out; rfl; exact HLD.out; intro Wb hsb hGb hzb))
    refine bodyPost_ret (results_agg (f := Value.bool) (l := b :: p.set) rfl _ (aggPl _ HLD.out) (X.heap.size + 1) 0 rfl hsb.at) rfl ?_
    rw [HST.out]
    exact ⟨_, rfl, Lib.hid rfl, HP, HUV.out.1.grown hGb (fun b e => by cases e; exact .inr (by omega)), HUV.out.2.grow HEn.out hGb (by omega)⟩
end Go.Proofs.YtllomcmhkocdfaaGreatDoor

/- The walk through a statement: tests. -/
namespace Go.Proofs.YtllomcmhkocdfaaGreatDoor
open Go.RowKit Mem
set_option maxRecDepth 100000

set_option maxHeartbeats 16000000 in
theorem rSt_If {S : List St} {B : List (List Int)} (V : WEnv) (hS : S.length ≤ 64) (i : Nat) (s : St) (hs : S[i]? = some s) (hst : StWalk s) (t e : Blk) (hk : s.kind = 10) (IHt : BlkC V S B t s.t) (IHe : BlkC V S B e s.e) : StC V S B i t e := by
  intro X p hp lp lf rp C HC hF hL hV
  obtain ⟨sb, so, hsp, hA0, hsbl, hin⟩ := hF.pg.stmt hs
  have hil : i < S.length := (List.getElem?_eq_some_iff.1 hs).1
  have hi1 : (i : Int) < (S.length : Int) := by omega
  have hE := hV.lts
  have hF0 := Lib.hid hF
  have hV0 := Lib.hid hV
  have hL0 := Lib.hid hL
  have HP := Lib.hid hp
  have HSD := Lib.hid (hF.pg.sd s (List.mem_of_getElem? hs))
  have c0 := hF.box.c0
  rw [hsp, hF.pg.ns] at c0
  have hAX : At oV X sb (so + i * 33) s.cs := hA0.below hF.below hsbl
  have hsX : sb < X.heap.size := Nat.lt_of_lt_of_le hsbl hF.below.size
  have hpbX := hF.top.1
  have hrbX := hV.rep.lt
  have hqbX := hV.reach.lt
  have r0 : X.cell? ⟨V.rb, 0, none⟩ = some (.slice (some ⟨V.qb, 0, none⟩) S.length S.length) := by rw [hV.rep.cell?]; rfl
  have hq0 : ∃ b, X.cell? ⟨V.qb, i, none⟩ = some (.bool b) := ⟨_, by rw [hV.reach.cell?, List.getElem?_eq_getElem (by rw [hV.len]; exact hil)]; rfl⟩
  obtain ⟨bq, q0⟩ := hq0
  have qf := hV.reach.frozen i
  clear hF hV hL hp hA0 hsp hin hsbl
  have HC0 := Lib.hid (And.intro c0 (And.intro r0 (And.intro q0 qf)))
  clear c0 r0 q0 qf
  go_enter Tryz.func47, Tryz.ntmps47
  go_upto_region 1 with (fail)
  obtain ⟨W, hW, hR, hZ, hB, hsW⟩ : ∃ W, (X.alloc (.cells C 105)).alloc (.cells zPlC 105) = W ∧ Row Value.bool W X.heap.size 105 p.cs ∧ Row Value.bool W (X.heap.size + 1) 105 zPl ∧ Below X.heap.size X W ∧ W.heap.size = X.heap.size + 2 :=
    ⟨_, rfl, Row.alloc (Row.new X _ (by rw [HC.out])) _, heap_new' _ _ _ (by simp), ((Below.refl _ _).alloc (Nat.le_refl _) _).alloc (by simp) _, by simp⟩
  rw [hW]
  clear hW
  have c0 := (hB.cell (p := ⟨V.pb, 0, none⟩) hpbX).trans HC0.out.1
  have hA1 := hAX.below hB hsX
  obtain ⟨C1, HC1⟩ : ∃ C1, Hid (C1 = (s.cs.map oV).toArray) := ⟨_, Lib.hid rfl⟩
  have hZ1 : Row oV (W.alloc (.cells zStmtC 45)) (X.heap.size + 2) 45 (stC 0 0 ⟨#[]⟩ 0 0) := by rw [← hsW]; exact Row.new _ _ rfl
  go_upto_region 2 with (first
    | ((with_reducible refine load_agg (f := oV) (l := s.cs) (aggSt _) (.tmp 20) ?_ ?_ sb (so + i * 33) ?_ hA1 HC1.out ?_); rfl; rfl; rfl)
    | ((with_reducible refine store_agg (f := oV) (l := stC 0 0 ⟨#[]⟩ 0 0) (l' := s.cs) (t := 45) (C := C1) (aggSt _) (.tmp 11) (.tmp 21) ?_ ?_ (X.heap.size + 2) ?_ ?_ ?_ hZ1 ?_ oV_one ?_); rfl; rfl; rfl; exact HC1.out; rfl; rfl; intro W5 hs5 hG5 hz5))
  have hB5 : Below X.heap.size X W5 := (hB.alloc hB.size (.cells zStmtC 45)).grown hG5 (by simp; omega) (fun k e => by cases e; omega)
  have hR5 : Row Value.bool W5 X.heap.size 105 p.cs := (hR.alloc _).grown hG5 (by simp)
  have hZ5 : Row Value.bool W5 (X.heap.size + 1) 105 zPl := (hZ.alloc _).grown hG5 (by simp)
  have hs5' : X.heap.size + 3 ≤ W5.heap.size := Nat.lt_of_lt_of_le (by omega) hs5.lt
  clear c0 hA1 hZ1 hR hZ hB hG5 hz5 hsW hAX
  have r0 := (hB5.cell (p := ⟨V.rb, 0, none⟩) hrbX).trans HC0.out.2.1
  have q0 := (hB5.cell (p := ⟨V.qb, i, none⟩) hqbX).trans HC0.out.2.2.1
  have qf := (hB5.frozen (p := ⟨V.qb, i, none⟩) hqbX).trans HC0.out.2.2.2
  have d0 : W5.cell? ⟨X.heap.size, 0, none⟩ = some (.bool p.live) := by rw [hR5.cell?]; rfl
  have HX := Lib.hid (And.intro hB5 (And.intro hR5 (And.intro hZ5 hs5)))
  clear hB5 hR5 hZ5 hs5
  go_upto_region 3 with (fail)
  obtain ⟨W6, hW6⟩ : ∃ W6, W5.setCell ⟨V.qb, i, none⟩ (.bool p.live) = W6 := ⟨_, rfl⟩
  have hs6 : X.heap.size + 3 ≤ W6.heap.size := by rw [← hW6]; simpa using hs5'
  have HV6 : Hid (WVar V S W6 lp lf { rp with reach := rp.reach.set i p.live }) := Lib.hid (by rw [← hW6]; exact (hV0.out.below HX.out.1).setReach (hF0.out.below' HX.out.1) hL0.out i p.live)
  have hU6 : Upd (V.E lp) X W6 := by rw [← hW6]; exact (Upd.of_below _ HX.out.1 (Nat.le_refl _)).set (.inl (.inr (.inl rfl))) _ _
  have HF : Hid (∀ Z, Upd (V.E lp) W6 Z → WFix V S B Z ∧ Upd (V.E lp) X Z ∧ Row Value.bool Z X.heap.size 105 p.cs ∧ Row Value.bool Z (X.heap.size + 1) 105 zPl ∧ Row oV Z (X.heap.size + 2) 45 s.cs ∧ X.heap.size + 3 ≤ Z.heap.size) := Lib.hid fun Z hZ => by
    obtain ⟨h1, h2, h3, h4⟩ := HX.out
    have hU : Upd (V.E lp) X Z := hU6.trans hZ (fun k _ h => h)
    have n : ∀ k, X.heap.size ≤ k → ¬ V.E lp k := fun k hk h => absurd (hE k h) (by omega)
    have k2 : Row Value.bool W6 X.heap.size 105 p.cs := by rw [← hW6]; exact h2.set_other (by omega) _ _
    have k3 : Row Value.bool W6 (X.heap.size + 1) 105 zPl := by rw [← hW6]; exact h3.set_other (by omega) _ _
    have k4 : Row oV W6 (X.heap.size + 2) 45 s.cs := by rw [← hW6]; exact h4.set_other (by omega) _ _
    exact ⟨hF0.out.upd hU hL0.out, hU, k2.upd hZ (n _ (Nat.le_refl _)), k3.upd hZ (n _ (by omega)), k4.upd hZ (n _ (by omega)), Nat.le_trans hs6 hZ.size⟩
  rw [hW6]
  clear hW6 r0 q0 qf d0 hs5' HX hU6 HC0
  have hEn : ∀ k, X.heap.size ≤ k → ¬ V.E lp k := fun k hk h => absurd (hE k h) (by omega)
  have HEn := Lib.hid hEn
  clear hEn hE
  have e0 : W6.cell? ⟨X.heap.size + 2, 0, none⟩ = some (.int .i64 s.kind) := by rw [(HF.out W6 (Upd.refl _ _)).2.2.2.2.1.cell?]; rfl
  rw [hk] at e0
  have hmk0 : ¬ (s.kind = 12 ∧ lf = none) := fun h => by rw [hk] at h; exact absurd h.1 (by decide)
  go_upto_if 34 with (fail)
  go_cut [52] (fun _ wx => Upd (V.E lp) W6 wx ∧ WVar V S wx lp lf (markS s i p lf rp))
  case first =>
    clear e0
    have hF6 : ∀ Z, Below W6.heap.size W6 Z → WFix V S B Z ∧ Upd (V.E lp) X Z ∧ Row Value.bool Z X.heap.size 105 p.cs ∧ Row Value.bool Z (X.heap.size + 1) 105 zPl ∧ Row oV Z (X.heap.size + 2) 45 s.cs ∧ X.heap.size + 3 ≤ Z.heap.size := fun Z hZ => HF.out Z (Upd.of_below _ hZ (Nat.le_refl _))
    obtain ⟨CV, HCV⟩ : ∃ CV, Hid (CV = (p.set.map Value.bool).toArray) := ⟨_, Lib.hid rfl⟩
    have hV16 : ∀ Z, Below W6.heap.size W6 Z → At Value.bool Z X.heap.size 1 p.set := fun Z hZ i hi => by rw [(hF6 Z hZ).2.2.1.cell?, Nat.add_comm 1 i]; rfl
    cases hlv : p.live with
    | false =>
      have hm : markS s i p lf rp = { rp with reach := rp.reach.set i p.live } := by
        unfold markS
        simp only [if_neg hmk0]
        rw [if_neg (by rw [hlv]; intro h; exact absurd h.1 (by decide))]
      rw [hlv] at hm
      have HM := Lib.hid hm
      have HL := Lib.hid hlv
      clear hm hlv
      go_wp2_with fail
      refine wp_region_held_drew (S := fun Z => Below W6.heap.size W6 Z) rfl (Below.refl _ _).drew fun hS6 => ?_
      refine takeD (i := 0) (d := 38) (v := .pointer (some ⟨X.heap.size, 0, none⟩)) rfl rfl (by kernel_rfl) (by kernel_rfl) (by kernel_rfl) (fun c a w h => h) (yieldsIf_op rfl (fun w => by first | rfl | kernel_rfl | (go_simp; done))) hS6 ?_
      simp only [List.setIfInBounds_toArray, List.set_cons_succ, List.set_cons_zero]
      refine takeD (i := 1) (d := 39) (v := .bool false) rfl rfl (by kernel_rfl) (by kernel_rfl) (by kernel_rfl) (fun c a w h => h) (.inl ⟨by first | rfl | kernel_rfl, fun W' h => by have q0 : W'.cell? ⟨X.heap.size, 0, none⟩ = some (.bool false) := (by rw [(hF6 W' h).2.2.1.cell?, ← HL.out]; rfl); go_simp⟩) hS6 ?_
      simp only [List.setIfInBounds_toArray, List.set_cons_succ, List.set_cons_zero]
      refine takeD (i := 2) (d := 40) (v := .bool false) rfl rfl (by kernel_rfl) (by kernel_rfl) (by kernel_rfl) (fun c a w h => h) (yieldsIf_op rfl (fun w => by first | rfl | kernel_rfl | (go_simp; done))) hS6 ?_
      simp only [List.setIfInBounds_toArray, List.set_cons_succ, List.set_cons_zero]
      refine takeD (i := 3) (d := 41) (v := undef) rfl rfl (by kernel_rfl) (by kernel_rfl) (by kernel_rfl) (fun c a w h => h) (yieldsIf_skip (by first | rfl | kernel_rfl)) hS6 ?_
      simp only [List.setIfInBounds_toArray, List.set_cons_succ, List.set_cons_zero]
      refine takeD (i := 4) (d := 42) (v := undef) rfl rfl (by kernel_rfl) (by kernel_rfl) (by kernel_rfl) (fun c a w h => h) (yieldsIf_skip (by first | rfl | kernel_rfl)) hS6 ?_
      simp only [List.setIfInBounds_toArray, List.set_cons_succ, List.set_cons_zero]
      refine takeD (i := 5) (d := 43) (v := undef) rfl rfl (by kernel_rfl) (by kernel_rfl) (by kernel_rfl) (fun c a w h => h) (yieldsIf_skip (by first | rfl | kernel_rfl)) hS6 ?_
      simp only [List.setIfInBounds_toArray, List.set_cons_succ, List.set_cons_zero]
      refine takeD (i := 6) (d := 44) (v := undef) rfl rfl (by kernel_rfl) (by kernel_rfl) (by kernel_rfl) (fun c a w h => h) (yieldsIf_skip (by first | rfl | kernel_rfl)) hS6 ?_
      simp only [List.setIfInBounds_toArray, List.set_cons_succ, List.set_cons_zero]
      refine takeD (i := 7) (d := 45) (v := undef) rfl rfl (by kernel_rfl) (by kernel_rfl) (by kernel_rfl) (fun c a w h => h) (yieldsIf_skip (by first | rfl | kernel_rfl)) hS6 ?_
      simp only [List.setIfInBounds_toArray, List.set_cons_succ, List.set_cons_zero]
      refine takeD (i := 8) (d := 46) (v := undef) rfl rfl (by kernel_rfl) (by kernel_rfl) (by kernel_rfl) (fun c a w h => h) (yieldsIf_skip (by first | rfl | kernel_rfl)) hS6 ?_
      simp only [List.setIfInBounds_toArray, List.set_cons_succ, List.set_cons_zero]
      refine takeD (i := 9) (d := 47) (v := undef) rfl rfl (by kernel_rfl) (by kernel_rfl) (by kernel_rfl) (fun c a w h => h) (yieldsIf_skip (by first | rfl | kernel_rfl)) hS6 ?_
      simp only [List.setIfInBounds_toArray, List.set_cons_succ, List.set_cons_zero]
      refine takeD (i := 10) (d := 48) (v := undef) rfl rfl (by kernel_rfl) (by kernel_rfl) (by kernel_rfl) (fun c a w h => h) (yieldsIf_skip (by first | rfl | kernel_rfl)) hS6 ?_
      simp only [List.setIfInBounds_toArray, List.set_cons_succ, List.set_cons_zero]
      refine takeD (i := 11) (d := 49) (v := .bool false) rfl rfl (by kernel_rfl) (by kernel_rfl) (by kernel_rfl) (fun c a w h => h) (yieldsIf_op rfl (fun w => by first | rfl | kernel_rfl | (go_simp; done))) hS6 ?_
      simp only [List.setIfInBounds_toArray, List.set_cons_succ, List.set_cons_zero]
      refine wpAnyH_done (by kernel_rfl) ?_ _
      clear hS6
      go_wp2_with fail
      go_meet
      exact ⟨(Upd.refl _ _).drew, by rw [HM.out, ← HL.out]; exact HV6.out.below (Below.refl _ _).drew⟩
    | true =>
      have HL := Lib.hid hlv
      clear hlv
      go_wp2_with fail
      refine wp_region_held_drew (S := fun Z => Below W6.heap.size W6 Z) rfl (Below.refl _ _).drew fun hS6 => ?_
      refine takeD (i := 0) (d := 38) (v := .pointer (some ⟨X.heap.size, 0, none⟩)) rfl rfl (by kernel_rfl) (by kernel_rfl) (by kernel_rfl) (fun c a w h => h) (yieldsIf_op rfl (fun w => by first | rfl | kernel_rfl | (go_simp; done))) hS6 ?_
      simp only [List.setIfInBounds_toArray, List.set_cons_succ, List.set_cons_zero]
      refine takeD (i := 1) (d := 39) (v := .bool true) rfl rfl (by kernel_rfl) (by kernel_rfl) (by kernel_rfl) (fun c a w h => h) (.inl ⟨by first | rfl | kernel_rfl, fun W' h => by have q0 : W'.cell? ⟨X.heap.size, 0, none⟩ = some (.bool true) := (by rw [(hF6 W' h).2.2.1.cell?, ← HL.out]; rfl); go_simp⟩) hS6 ?_
      simp only [List.setIfInBounds_toArray, List.set_cons_succ, List.set_cons_zero]
      refine takeD (i := 2) (d := 40) (v := .bool true) rfl rfl (by kernel_rfl) (by kernel_rfl) (by kernel_rfl) (fun c a w h => h) (yieldsIf_op rfl (fun w => by first | rfl | kernel_rfl | (go_simp; done))) hS6 ?_
      simp only [List.setIfInBounds_toArray, List.set_cons_succ, List.set_cons_zero]
      refine takeD (i := 3) (d := 41) (v := .pointer (some ⟨X.heap.size, 1, none⟩)) rfl rfl (by kernel_rfl) (by kernel_rfl) (by kernel_rfl) (fun c a w h => h) (yieldsIf_op rfl (fun w => by first | rfl | kernel_rfl | (go_simp; done))) hS6 ?_
      simp only [List.setIfInBounds_toArray, List.set_cons_succ, List.set_cons_zero]
      refine takeD (i := 4) (d := 42) (v := .agg CV) rfl rfl (by kernel_rfl) (by kernel_rfl) (by kernel_rfl) (fun c a w h => h) (yieldsIf_load (f := Value.bool) (l := p.set) (aggVarsL _ HP.out) (.tmp 41) rfl X.heap.size 1 rfl (fun W' h => hV16 W' h) HCV.out rfl) hS6 ?_
      simp only [List.setIfInBounds_toArray, List.set_cons_succ, List.set_cons_zero]
      refine takeD (i := 5) (d := 43) (v := .agg C1) rfl rfl (by kernel_rfl) (by kernel_rfl) (by kernel_rfl) (fun c a w h => h) (yieldsIf_load (f := oV) (l := s.cs) (aggSt _) (.tmp 11) rfl (X.heap.size + 2) 0 rfl (fun W' h => (hF6 W' h).2.2.2.2.1.at) HC1.out rfl) hS6 ?_
      simp only [List.setIfInBounds_toArray, List.set_cons_succ, List.set_cons_zero]
      refine takeD (i := 8) (d := 46) (v := .pointer (some ⟨X.heap.size, 1, none⟩)) rfl rfl (by kernel_rfl) (by kernel_rfl) (by kernel_rfl) (fun c a w h => h) (yieldsIf_op rfl (fun w => by first | rfl | kernel_rfl | (go_simp; done))) hS6 ?_
      simp only [List.setIfInBounds_toArray, List.set_cons_succ, List.set_cons_zero]
      refine takeD (i := 9) (d := 47) (v := .agg CV) rfl rfl (by kernel_rfl) (by kernel_rfl) (by kernel_rfl) (fun c a w h => h) (yieldsIf_load (f := Value.bool) (l := p.set) (aggVarsL _ HP.out) (.tmp 46) rfl X.heap.size 1 rfl (fun W' h => hV16 W' h) HCV.out rfl) hS6 ?_
      simp only [List.setIfInBounds_toArray, List.set_cons_succ, List.set_cons_zero]
      refine wpAnyH_ready (rs := [6]) (by kernel_rfl) (by simp) (AllReadyH.cons rfl (fun K' hK => ?_) AllReadyH.nil)
      refine callD (d := 44) (g := 30) (args := #[.agg C1]) rfl rfl (by first | kernel_rfl | (simp [execOp, resolve, invoke, Act.eval]) | go_simp) ?_
      refine (hst.rd _ C1 HC1).mono ?_
      rintro e7 W7 ⟨C7, rfl, HC7, hB7⟩
      replace hS6 := hS6.trans (hB7.mono hS6.size)
      refine ⟨_, rfl, hK.out _ _ hS6 fun _ => ?_⟩
      clear hK hB7
      simp only [List.setIfInBounds_toArray, List.set_cons_succ, List.set_cons_zero]
      refine wpAnyH_ready (rs := [7]) (by kernel_rfl) (by simp) (AllReadyH.cons rfl (fun K' hK => ?_) AllReadyH.nil)
      refine callD (d := 45) (g := 29) (args := #[.agg CV, .agg C7]) rfl rfl (by first | kernel_rfl | (simp [execOp, resolve, invoke, Act.eval]) | go_simp) ?_
      refine (rOr _ p.set (rdV s) HP.out (rdV_length s) CV C7 HCV HC7).mono ?_
      rintro e8 W8 ⟨C8, rfl, HC8, hB8⟩
      replace hS6 := hS6.trans (hB8.mono hS6.size)
      refine ⟨_, rfl, hK.out _ _ hS6 fun _ => ?_⟩
      clear hK hB8
      simp only [List.setIfInBounds_toArray, List.set_cons_succ, List.set_cons_zero]
      refine takeD (i := 10) (d := 48) (v := .bool (orV p.set (rdV s) != p.set)) rfl rfl (by kernel_rfl) (by kernel_rfl) (by kernel_rfl) (fun c a w h => h) (yieldsIf_op rfl (fun w => exec_neq_vars (.tmp 45) (.tmp 47) rfl (orV p.set (rdV s)) p.set (orV_length HP.out (rdV_length s)) HP.out HC8.out HCV.out rfl rfl w)) hS6 ?_
      simp only [List.setIfInBounds_toArray, List.set_cons_succ, List.set_cons_zero]
      refine takeD (i := 11) (d := 49) (v := .bool (orV p.set (rdV s) != p.set)) rfl rfl (by kernel_rfl) (by kernel_rfl) (by kernel_rfl) (fun c a w h => h) (yieldsIf_op rfl (fun w => by first | rfl | kernel_rfl | (go_simp; done))) hS6 ?_
      simp only [List.setIfInBounds_toArray, List.set_cons_succ, List.set_cons_zero]
      refine wpAnyH_done (by kernel_rfl) ?_ _
      have hb8 := (hF6 W8 hS6)
      have cw := hb8.1.cw
      have hV8 := HV6.out.below hS6
      have HU8 := Lib.hid (Upd.of_below (V.E lp) hS6 (Nat.le_refl _))
      have HV8 := Lib.hid hV8
      clear hb8 hS6 hF6 hV16 hV8
      cases hne : (orV p.set (rdV s) != p.set) with
      | false =>
        have hm : markS s i p lf rp = { rp with reach := rp.reach.set i p.live } := by
          unfold markS
          simp only [if_neg hmk0]
          rw [if_neg (by intro h; simp at hne; exact h.2 hne)]
        have HM := Lib.hid hm
        clear hm hne
        go_wp2_with fail
        go_meet
        exact ⟨HU8.out, by rw [HM.out]; exact HV8.out⟩
      | true =>
        have hm : markS s i p lf rp = ({ rp with reach := rp.reach.set i p.live } : Rp).wrong i 170 := by
          unfold markS
          simp only [if_neg hmk0]
          rw [if_pos ⟨HL.out, by simpa using hne⟩]
        have HM := Lib.hid hm
        clear hm hne
        go_wp2_with fail
        refine (rWrong W8 V.rb _ { rp with reach := rp.reach.set i p.live } i 170 HV8.out.rep).mono ?_
        rintro en W9 ⟨rfl, hr9, hu9⟩
        have hV9 : WVar V S W9 lp lf (({ rp with reach := rp.reach.set i p.live } : Rp).wrong i 170) := by
          have h := HV8.out
          refine ⟨hr9, ?_, ?_, ?_⟩
          · have := h.reach.upd hu9 (by show ¬ V.qb = V.rb; exact fun e => hF0.out.ne.1 e.symm)
            unfold Rp.wrong; split <;> exact this
          · have := h.len
            unfold Rp.wrong; split <;> exact this
          · rcases h.left with h1 | ⟨l, b, h1, h2, h3⟩
            · exact .inl h1
            · exact .inr ⟨l, b, h1, h2, h3.upd hu9 (by show ¬ l = V.rb; exact (hL0.out l h1).2.2.1)⟩
        have hU9 := HU8.out.trans hu9 (fun k _ h => .inl h)
        have H9 := Lib.hid (And.intro hU9 hV9)
        clear hr9 hu9 hV9 hU9 cw
        go_wp2_with fail
        go_meet
        exact ⟨H9.out.1, by rw [HM.out]; exact H9.out.2⟩
  case rest =>
    obtain ⟨hU7, hV7⟩ := hcut
    clear e0
    have HFZ : Hid (∀ Z, Upd (V.E lp) wc Z → WFix V S B Z ∧ Upd (V.E lp) X Z ∧ Row Value.bool Z X.heap.size 105 p.cs ∧ Row Value.bool Z (X.heap.size + 1) 105 zPl ∧ Row oV Z (X.heap.size + 2) 45 s.cs ∧ X.heap.size + 3 ≤ Z.heap.size) := Lib.hid fun Z hZ => HF.out Z (hU7.trans hZ (fun k _ h => h))
    have HV7 := Lib.hid hV7
    clear hU7 hV7 HF HV6 hs6
    have e0 : wc.cell? ⟨X.heap.size + 2, 0, none⟩ = some (.int .i64 10) := by rw [(HFZ.out wc (Upd.refl _ _)).2.2.2.2.1.cell?]; rw [show s.cs[0]? = some (oi s.kind) from rfl, hk]; rfl
    have hst1 : stp S i t e p lf rp = (joinP (wk S t p lf (markS s i p lf rp)).1 (wk S e p (wk S t p lf (markS s i p lf rp)).2.1 (wk S t p lf (markS s i p lf rp)).2.2).1, (wk S e p (wk S t p lf (markS s i p lf rp)).2.1 (wk S t p lf (markS s i p lf rp)).2.2).2) := by unfold stp; simp only [at'_of hs, hk]; rfl
    have HST := Lib.hid hst1
    obtain ⟨hF7, hU7, hR7, hZ7, hs7, hz7⟩ := HFZ.out wc (Upd.refl _ _)
    have b0 := hF7.cb
    have e31 : wc.cell? ⟨X.heap.size + 2, 31, none⟩ = some (.int .i64 s.t) := by rw [hs7.cell?]; rfl
    have HF7 := Lib.hid hF7
    clear hF7 hU7 hZ7 hs7 hz7 hst1
    go_wp2_with (first
      | ((with_reducible refine load_agg (f := Value.bool) (l := p.cs) (aggPl _ (p.cs_length HP.out)) (.tmp 8) ?_ ?_ X.heap.size 0 ?_ hR7.at HC.out ?_); rfl; rfl; rfl))
    refine (IHt wc p HP.out lp lf _ C HC HF7.out hL0.out HV7.out).mono ?_
    rintro ev Wa ⟨Ca, rfl, HCa, HLa, hUa, hVa⟩
    clear b0 e31 hR7 e0
    generalize wk S t p lf (markS s i p lf rp) = a at HST HCa HLa hVa
    obtain ⟨pa, lfa, ra⟩ := a
    simp only at HST HCa HLa hVa
    have hz8 := (HFZ.out Wa hUa).2.2.2.2.2
    have hwc8 : wc.heap.size ≤ Wa.heap.size := hUa.size
    have hN0 : Row Value.bool (Wa.alloc (.cells zPlC 105)) Wa.heap.size 105 zPl := Row.new _ _ rfl
    have hUa1 := hUa.alloc (.cells zPlC 105)
    have hVa1 := hVa.below ((Below.refl Wa.heap.size Wa).alloc (Nat.le_refl _) (.cells zPlC 105))
    have HLa17 := Lib.hid (pa.cs_length HLa.out)
    clear hUa hVa
    go_upto_region 10 with (first
      | ((with_reducible refine store_agg (f := Value.bool) (l := zPl) (l' := pa.cs) (t := 105) (C := Ca) (aggPl _ HLa17.out) (.tmp 12) (.tmp 62) ?_ ?_ Wa.heap.size ?_ ?_ ?_ hN0 ?_ bV_one ?_); rfl; rfl; rfl; exact HCa.out; rfl; exact HLa17.out; intro Wb hsb hGb hzb))
    have hwcs : wc.heap.size ≤ Wa.heap.size := hwc8
    have hUb : Upd (V.E lp) wc Wb := hUa1.grown hGb (fun b e => by cases e; exact .inr (by omega))
    have HVB := Lib.hid (hVa1.grow HEn.out hGb (by omega))
    have HFB : Hid (∀ Z, Upd (V.E lp) Wb Z → WFix V S B Z ∧ Upd (V.E lp) X Z ∧ Row Value.bool Z X.heap.size 105 p.cs ∧ Row Value.bool Z (X.heap.size + 1) 105 zPl ∧ Row oV Z (X.heap.size + 2) 45 s.cs ∧ X.heap.size + 3 ≤ Z.heap.size) := Lib.hid fun Z hZ => HFZ.out Z (hUb.trans hZ (fun k _ h => h))
    have HN12 : Hid (∀ Z, Upd (V.E lp) Wb Z → Row Value.bool Z Wa.heap.size 105 pa.cs) := Lib.hid fun Z hZ => hsb.upd hZ (HEn.out _ (by omega))
    clear hUa1 hVa1 hN0 hsb hGb hzb hUb HFZ
    generalize Wa.heap.size = n12 at HN12 hz8 ⊢
    refine region_headsT (S := fun Z => Upd (V.E lp) Wb Z) 8 rfl (by kernel_rfl) (Upd.refl _ _).drew fun hS8 => ?_
    refine headsT_takeD (i := 0) (d := 63) (v := .agg Ca) (by kernel_rfl) rfl rfl (by omega) (by kernel_rfl) (by kernel_rfl) (fun c a w h => h) (yieldsIf_load (f := Value.bool) (l := pa.cs) (aggPl _ HLa17.out) (.tmp 12) rfl n12 0 rfl (fun W' h => (HN12.out W' h).at) HCa.out rfl) hS8 ?_
    simp only [put_none, List.setIfInBounds_toArray, List.set_cons_succ, List.set_cons_zero]
    refine headsT_takeD (i := 1) (d := 64) (v := .func (.func 49) #[] #[.pointer (some ⟨V.pb, 0, none⟩), .pointer (some ⟨V.tb, 0, none⟩)]) (by kernel_rfl) rfl rfl (by omega) (by kernel_rfl) (by kernel_rfl) (fun c a w h => h) (.inl ⟨by first | rfl | kernel_rfl, fun W' h => by have q0 := (HFB.out W' h).1.cb; go_simp⟩) hS8 ?_
    simp only [put_none, List.setIfInBounds_toArray, List.set_cons_succ, List.set_cons_zero]
    refine headsT_takeD (i := 2) (d := 65) (v := .pointer (some ⟨X.heap.size + 2, 32, none⟩)) (by kernel_rfl) rfl rfl (by omega) (by kernel_rfl) (by kernel_rfl) (fun c a w h => h) (yieldsIf_op rfl (fun w => by first | rfl | kernel_rfl | (go_simp; done))) hS8 ?_
    simp only [put_none, List.setIfInBounds_toArray, List.set_cons_succ, List.set_cons_zero]
    refine headsT_takeD (i := 3) (d := 66) (v := .int .i64 s.e) (by kernel_rfl) rfl rfl (by omega) (by kernel_rfl) (by kernel_rfl) (fun c a w h => h) (.inl ⟨by first | rfl | kernel_rfl, fun W' h => by have q0 : W'.cell? ⟨X.heap.size + 2, 32, none⟩ = some (.int .i64 s.e) := (by rw [(HFB.out W' h).2.2.2.2.1.cell?]; rfl); go_simp⟩) hS8 ?_
    simp only [put_none, List.setIfInBounds_toArray, List.set_cons_succ, List.set_cons_zero]
    refine headsT_takeD (i := 4) (d := 67) (v := .agg C) (by kernel_rfl) rfl rfl (by omega) (by kernel_rfl) (by kernel_rfl) (fun c a w h => h) (yieldsIf_load (f := Value.bool) (l := p.cs) (aggPl _ (p.cs_length HP.out)) (.tmp 8) rfl X.heap.size 0 rfl (fun W' h => (HFB.out W' h).2.2.1.at) HC.out rfl) hS8 ?_
    simp only [put_none, List.setIfInBounds_toArray, List.set_cons_succ, List.set_cons_zero]
    refine headsT_takeD (i := 5) (d := 68) (v := lpV lp) (by kernel_rfl) rfl rfl (by omega) (by kernel_rfl) (by kernel_rfl) (fun c a w h => h) (yieldsIf_op rfl (fun w => by first | rfl | kernel_rfl | (go_simp; done))) hS8 ?_
    simp only [put_none, List.setIfInBounds_toArray, List.set_cons_succ, List.set_cons_zero]
    refine headsT_ready (rs := [6]) (by kernel_rfl) (by simp) (AllReadyT.cons (by omega) rfl (fun K' hK => ?_) AllReadyT.nil)
    refine callD (d := 69) (g := 49) (args := #[.int .i64 s.e, .agg C, lpV lp, .pointer (some ⟨V.pb, 0, none⟩), .pointer (some ⟨V.tb, 0, none⟩)]) rfl rfl (by first | kernel_rfl | (simp [execOp, resolve, invoke, Act.eval]) | go_simp) ?_
    refine (IHe _ p HP.out lp _ _ C HC (HFB.out _ hS8).1 hL0.out (HVB.out.below (Below.refl _ _).drew)).mono ?_
    rintro ev We ⟨Ce, rfl, HCe, HLe, hUe, hVe⟩
    replace hS8 := hS8.trans hUe (fun k _ h => h)
    refine ⟨_, rfl, hK.out _ _ hS8 fun _ => ?_⟩
    clear hK hUe
    simp only [List.setIfInBounds_toArray, List.set_cons_succ, List.set_cons_zero]
    refine headsT_ready (rs := [7]) (by kernel_rfl) (by simp) (AllReadyT.cons (by omega) rfl (fun K' hK => ?_) AllReadyT.nil)
    refine callD (d := 70) (g := 48) (args := #[.agg Ca, .agg Ce]) rfl rfl (by first | kernel_rfl | (simp [execOp, resolve, invoke, Act.eval]) | go_simp) ?_
    refine (rJoin _ pa _ HLa.out HLe.out Ca Ce HCa HCe).mono ?_
    rintro ev Wj ⟨Cj, rfl, HCj, hBj⟩
    have hVj := hVe.below hBj
    replace hS8 := hS8.below hBj hS8.size
    refine ⟨_, rfl, hK.out _ _ hS8 fun _ => ?_⟩
    clear hK hBj hVe
    simp only [List.setIfInBounds_toArray, List.set_cons_succ, List.set_cons_zero]
    refine headsT_tail (by kernel_rfl) ?_
    simp only [List.drop]
    have hZj := (HFB.out _ hS8).2.2.2.1
    have HUj := Lib.hid (HFB.out _ hS8).2.1
    have HVj := Lib.hid hVj
    have HLj := Lib.hid (joinP_length (a := pa) HLa.out HLe.out)
    clear hVj hS8 HFB HN12 HVB
    have HLj17 := Lib.hid ((joinP pa (wk S e p lfa ra).1).cs_length HLj.out)
    go_wp2_with (first
      | ((with_reducible refine store_agg (f := Value.bool) (l := zPl) (l' := (joinP pa (wk S e p lfa ra).1).cs) (t := 105) (C := Cj) (aggPl _ HLj17.out) (.tmp 10) (.tmp 70) ?_ ?_ (X.heap.size + 1) ?_ ?_ ?_ hZj ?_ bV_one ?_); rfl; rfl; rfl; exact HCj.out; rfl; exact HLj17.out; intro Wr hsr hGr hzr))
    refine bodyPost_ret (results_agg (f := Value.bool) (l := (joinP pa (wk S e p lfa ra).1).cs) rfl _ (aggPl _ HLj17.out) (X.heap.size + 1) 0 rfl hsr.at) rfl ?_
    rw [HST.out]
    exact ⟨_, rfl, Lib.hid rfl, HLj, HUj.out.grown hGr (fun b e => by cases e; exact .inr (by omega)), HVj.out.grow HEn.out hGr (by omega)⟩
end Go.Proofs.YtllomcmhkocdfaaGreatDoor

/- The walk through a statement: those that can fail. -/
namespace Go.Proofs.YtllomcmhkocdfaaGreatDoor
open Go.RowKit Mem
set_option maxRecDepth 100000

set_option maxHeartbeats 16000000 in
theorem rSt_Fail {S : List St} {B : List (List Int)} (V : WEnv) (hS : S.length ≤ 64) (i : Nat) (s : St) (hs : S[i]? = some s) (hst : StWalk s) (t e : Blk) (h10 : s.kind ≠ 10) (h11 : s.kind ≠ 11) (h12 : s.kind ≠ 12) (h14 : s.kind ≠ 14) (h15 : s.kind ≠ 15) (hfl : flB s = true) (IHt : BlkC V S B t s.t) (IHe : BlkC V S B e s.e) : StC V S B i t e := by
  intro X p hp lp lf rp C HC hF hL hV
  obtain ⟨sb, so, hsp, hA0, hsbl, hin⟩ := hF.pg.stmt hs
  have hil : i < S.length := (List.getElem?_eq_some_iff.1 hs).1
  have hi1 : (i : Int) < (S.length : Int) := by omega
  have hE := hV.lts
  have hF0 := Lib.hid hF
  have hV0 := Lib.hid hV
  have hL0 := Lib.hid hL
  have HP := Lib.hid hp
  have HSD := Lib.hid (hF.pg.sd s (List.mem_of_getElem? hs))
  have c0 := hF.box.c0
  rw [hsp, hF.pg.ns] at c0
  have hAX : At oV X sb (so + i * 33) s.cs := hA0.below hF.below hsbl
  have hsX : sb < X.heap.size := Nat.lt_of_lt_of_le hsbl hF.below.size
  have hpbX := hF.top.1
  have hrbX := hV.rep.lt
  have hqbX := hV.reach.lt
  have r0 : X.cell? ⟨V.rb, 0, none⟩ = some (.slice (some ⟨V.qb, 0, none⟩) S.length S.length) := by rw [hV.rep.cell?]; rfl
  have hq0 : ∃ b, X.cell? ⟨V.qb, i, none⟩ = some (.bool b) := ⟨_, by rw [hV.reach.cell?, List.getElem?_eq_getElem (by rw [hV.len]; exact hil)]; rfl⟩
  obtain ⟨bq, q0⟩ := hq0
  have qf := hV.reach.frozen i
  clear hF hV hL hp hA0 hsp hin hsbl
  have HC0 := Lib.hid (And.intro c0 (And.intro r0 (And.intro q0 qf)))
  clear c0 r0 q0 qf
  go_enter Tryz.func47, Tryz.ntmps47
  go_upto_region 1 with (fail)
  obtain ⟨W, hW, hR, hZ, hB, hsW⟩ : ∃ W, (X.alloc (.cells C 105)).alloc (.cells zPlC 105) = W ∧ Row Value.bool W X.heap.size 105 p.cs ∧ Row Value.bool W (X.heap.size + 1) 105 zPl ∧ Below X.heap.size X W ∧ W.heap.size = X.heap.size + 2 :=
    ⟨_, rfl, Row.alloc (Row.new X _ (by rw [HC.out])) _, heap_new' _ _ _ (by simp), ((Below.refl _ _).alloc (Nat.le_refl _) _).alloc (by simp) _, by simp⟩
  rw [hW]
  clear hW
  have c0 := (hB.cell (p := ⟨V.pb, 0, none⟩) hpbX).trans HC0.out.1
  have hA1 := hAX.below hB hsX
  obtain ⟨C1, HC1⟩ : ∃ C1, Hid (C1 = (s.cs.map oV).toArray) := ⟨_, Lib.hid rfl⟩
  have hZ1 : Row oV (W.alloc (.cells zStmtC 45)) (X.heap.size + 2) 45 (stC 0 0 ⟨#[]⟩ 0 0) := by rw [← hsW]; exact Row.new _ _ rfl
  go_upto_region 2 with (first
    | ((with_reducible refine load_agg (f := oV) (l := s.cs) (aggSt _) (.tmp 20) ?_ ?_ sb (so + i * 33) ?_ hA1 HC1.out ?_); rfl; rfl; rfl)
    | ((with_reducible refine store_agg (f := oV) (l := stC 0 0 ⟨#[]⟩ 0 0) (l' := s.cs) (t := 45) (C := C1) (aggSt _) (.tmp 11) (.tmp 21) ?_ ?_ (X.heap.size + 2) ?_ ?_ ?_ hZ1 ?_ oV_one ?_); rfl; rfl; rfl; exact HC1.out; rfl; rfl; intro W5 hs5 hG5 hz5))
  have hB5 : Below X.heap.size X W5 := (hB.alloc hB.size (.cells zStmtC 45)).grown hG5 (by simp; omega) (fun k e => by cases e; omega)
  have hR5 : Row Value.bool W5 X.heap.size 105 p.cs := (hR.alloc _).grown hG5 (by simp)
  have hZ5 : Row Value.bool W5 (X.heap.size + 1) 105 zPl := (hZ.alloc _).grown hG5 (by simp)
  have hs5' : X.heap.size + 3 ≤ W5.heap.size := Nat.lt_of_lt_of_le (by omega) hs5.lt
  clear c0 hA1 hZ1 hR hZ hB hG5 hz5 hsW hAX
  have r0 := (hB5.cell (p := ⟨V.rb, 0, none⟩) hrbX).trans HC0.out.2.1
  have q0 := (hB5.cell (p := ⟨V.qb, i, none⟩) hqbX).trans HC0.out.2.2.1
  have qf := (hB5.frozen (p := ⟨V.qb, i, none⟩) hqbX).trans HC0.out.2.2.2
  have d0 : W5.cell? ⟨X.heap.size, 0, none⟩ = some (.bool p.live) := by rw [hR5.cell?]; rfl
  have HX := Lib.hid (And.intro hB5 (And.intro hR5 (And.intro hZ5 hs5)))
  clear hB5 hR5 hZ5 hs5
  go_upto_region 3 with (fail)
  obtain ⟨W6, hW6⟩ : ∃ W6, W5.setCell ⟨V.qb, i, none⟩ (.bool p.live) = W6 := ⟨_, rfl⟩
  have hs6 : X.heap.size + 3 ≤ W6.heap.size := by rw [← hW6]; simpa using hs5'
  have HV6 : Hid (WVar V S W6 lp lf { rp with reach := rp.reach.set i p.live }) := Lib.hid (by rw [← hW6]; exact (hV0.out.below HX.out.1).setReach (hF0.out.below' HX.out.1) hL0.out i p.live)
  have hU6 : Upd (V.E lp) X W6 := by rw [← hW6]; exact (Upd.of_below _ HX.out.1 (Nat.le_refl _)).set (.inl (.inr (.inl rfl))) _ _
  have HF : Hid (∀ Z, Upd (V.E lp) W6 Z → WFix V S B Z ∧ Upd (V.E lp) X Z ∧ Row Value.bool Z X.heap.size 105 p.cs ∧ Row Value.bool Z (X.heap.size + 1) 105 zPl ∧ Row oV Z (X.heap.size + 2) 45 s.cs ∧ X.heap.size + 3 ≤ Z.heap.size) := Lib.hid fun Z hZ => by
    obtain ⟨h1, h2, h3, h4⟩ := HX.out
    have hU : Upd (V.E lp) X Z := hU6.trans hZ (fun k _ h => h)
    have n : ∀ k, X.heap.size ≤ k → ¬ V.E lp k := fun k hk h => absurd (hE k h) (by omega)
    have k2 : Row Value.bool W6 X.heap.size 105 p.cs := by rw [← hW6]; exact h2.set_other (by omega) _ _
    have k3 : Row Value.bool W6 (X.heap.size + 1) 105 zPl := by rw [← hW6]; exact h3.set_other (by omega) _ _
    have k4 : Row oV W6 (X.heap.size + 2) 45 s.cs := by rw [← hW6]; exact h4.set_other (by omega) _ _
    exact ⟨hF0.out.upd hU hL0.out, hU, k2.upd hZ (n _ (Nat.le_refl _)), k3.upd hZ (n _ (by omega)), k4.upd hZ (n _ (by omega)), Nat.le_trans hs6 hZ.size⟩
  rw [hW6]
  clear hW6 r0 q0 qf d0 hs5' HX hU6 HC0
  have hEn : ∀ k, X.heap.size ≤ k → ¬ V.E lp k := fun k hk h => absurd (hE k h) (by omega)
  have HEn := Lib.hid hEn
  clear hEn hE
  have e0 : W6.cell? ⟨X.heap.size + 2, 0, none⟩ = some (.int .i64 s.kind) := by rw [(HF.out W6 (Upd.refl _ _)).2.2.2.2.1.cell?]; rfl
  have k10 : (s.kind == 10) = false := by simpa using h10
  have k11 : (s.kind == 11) = false := by simpa using h11
  have k12 : (s.kind == 12) = false := by simpa using h12
  have k14 : (s.kind == 14) = false := by simpa using h14
  have k15 : (s.kind == 15) = false := by simpa using h15
  have hmk0 : ¬ (s.kind = 12 ∧ lf = none) := fun h => h12 h.1
  go_upto_if 34 with (fail)
  go_cut [52] (fun _ wx => Upd (V.E lp) W6 wx ∧ WVar V S wx lp lf (markS s i p lf rp))
  case first =>
    clear e0
    have hF6 : ∀ Z, Below W6.heap.size W6 Z → WFix V S B Z ∧ Upd (V.E lp) X Z ∧ Row Value.bool Z X.heap.size 105 p.cs ∧ Row Value.bool Z (X.heap.size + 1) 105 zPl ∧ Row oV Z (X.heap.size + 2) 45 s.cs ∧ X.heap.size + 3 ≤ Z.heap.size := fun Z hZ => HF.out Z (Upd.of_below _ hZ (Nat.le_refl _))
    obtain ⟨CV, HCV⟩ : ∃ CV, Hid (CV = (p.set.map Value.bool).toArray) := ⟨_, Lib.hid rfl⟩
    have hV16 : ∀ Z, Below W6.heap.size W6 Z → At Value.bool Z X.heap.size 1 p.set := fun Z hZ i hi => by rw [(hF6 Z hZ).2.2.1.cell?, Nat.add_comm 1 i]; rfl
    cases hlv : p.live with
    | false =>
      have hm : markS s i p lf rp = { rp with reach := rp.reach.set i p.live } := by
        unfold markS
        simp only [if_neg hmk0]
        rw [if_neg (by rw [hlv]; intro h; exact absurd h.1 (by decide))]
      rw [hlv] at hm
      have HM := Lib.hid hm
      have HL := Lib.hid hlv
      clear hm hlv
      go_wp2_with fail
      refine wp_region_held_drew (S := fun Z => Below W6.heap.size W6 Z) rfl (Below.refl _ _).drew fun hS6 => ?_
      refine takeD (i := 0) (d := 38) (v := .pointer (some ⟨X.heap.size, 0, none⟩)) rfl rfl (by kernel_rfl) (by kernel_rfl) (by kernel_rfl) (fun c a w h => h) (yieldsIf_op rfl (fun w => by first | rfl | kernel_rfl | (go_simp; done))) hS6 ?_
      simp only [List.setIfInBounds_toArray, List.set_cons_succ, List.set_cons_zero]
      refine takeD (i := 1) (d := 39) (v := .bool false) rfl rfl (by kernel_rfl) (by kernel_rfl) (by kernel_rfl) (fun c a w h => h) (.inl ⟨by first | rfl | kernel_rfl, fun W' h => by have q0 : W'.cell? ⟨X.heap.size, 0, none⟩ = some (.bool false) := (by rw [(hF6 W' h).2.2.1.cell?, ← HL.out]; rfl); go_simp⟩) hS6 ?_
      simp only [List.setIfInBounds_toArray, List.set_cons_succ, List.set_cons_zero]
      refine takeD (i := 2) (d := 40) (v := .bool false) rfl rfl (by kernel_rfl) (by kernel_rfl) (by kernel_rfl) (fun c a w h => h) (yieldsIf_op rfl (fun w => by first | rfl | kernel_rfl | (go_simp; done))) hS6 ?_
      simp only [List.setIfInBounds_toArray, List.set_cons_succ, List.set_cons_zero]
      refine takeD (i := 3) (d := 41) (v := undef) rfl rfl (by kernel_rfl) (by kernel_rfl) (by kernel_rfl) (fun c a w h => h) (yieldsIf_skip (by first | rfl | kernel_rfl)) hS6 ?_
      simp only [List.setIfInBounds_toArray, List.set_cons_succ, List.set_cons_zero]
      refine takeD (i := 4) (d := 42) (v := undef) rfl rfl (by kernel_rfl) (by kernel_rfl) (by kernel_rfl) (fun c a w h => h) (yieldsIf_skip (by first | rfl | kernel_rfl)) hS6 ?_
      simp only [List.setIfInBounds_toArray, List.set_cons_succ, List.set_cons_zero]
      refine takeD (i := 5) (d := 43) (v := undef) rfl rfl (by kernel_rfl) (by kernel_rfl) (by kernel_rfl) (fun c a w h => h) (yieldsIf_skip (by first | rfl | kernel_rfl)) hS6 ?_
      simp only [List.setIfInBounds_toArray, List.set_cons_succ, List.set_cons_zero]
      refine takeD (i := 6) (d := 44) (v := undef) rfl rfl (by kernel_rfl) (by kernel_rfl) (by kernel_rfl) (fun c a w h => h) (yieldsIf_skip (by first | rfl | kernel_rfl)) hS6 ?_
      simp only [List.setIfInBounds_toArray, List.set_cons_succ, List.set_cons_zero]
      refine takeD (i := 7) (d := 45) (v := undef) rfl rfl (by kernel_rfl) (by kernel_rfl) (by kernel_rfl) (fun c a w h => h) (yieldsIf_skip (by first | rfl | kernel_rfl)) hS6 ?_
      simp only [List.setIfInBounds_toArray, List.set_cons_succ, List.set_cons_zero]
      refine takeD (i := 8) (d := 46) (v := undef) rfl rfl (by kernel_rfl) (by kernel_rfl) (by kernel_rfl) (fun c a w h => h) (yieldsIf_skip (by first | rfl | kernel_rfl)) hS6 ?_
      simp only [List.setIfInBounds_toArray, List.set_cons_succ, List.set_cons_zero]
      refine takeD (i := 9) (d := 47) (v := undef) rfl rfl (by kernel_rfl) (by kernel_rfl) (by kernel_rfl) (fun c a w h => h) (yieldsIf_skip (by first | rfl | kernel_rfl)) hS6 ?_
      simp only [List.setIfInBounds_toArray, List.set_cons_succ, List.set_cons_zero]
      refine takeD (i := 10) (d := 48) (v := undef) rfl rfl (by kernel_rfl) (by kernel_rfl) (by kernel_rfl) (fun c a w h => h) (yieldsIf_skip (by first | rfl | kernel_rfl)) hS6 ?_
      simp only [List.setIfInBounds_toArray, List.set_cons_succ, List.set_cons_zero]
      refine takeD (i := 11) (d := 49) (v := .bool false) rfl rfl (by kernel_rfl) (by kernel_rfl) (by kernel_rfl) (fun c a w h => h) (yieldsIf_op rfl (fun w => by first | rfl | kernel_rfl | (go_simp; done))) hS6 ?_
      simp only [List.setIfInBounds_toArray, List.set_cons_succ, List.set_cons_zero]
      refine wpAnyH_done (by kernel_rfl) ?_ _
      clear hS6
      go_wp2_with fail
      go_meet
      exact ⟨(Upd.refl _ _).drew, by rw [HM.out, ← HL.out]; exact HV6.out.below (Below.refl _ _).drew⟩
    | true =>
      have HL := Lib.hid hlv
      clear hlv
      go_wp2_with fail
      refine wp_region_held_drew (S := fun Z => Below W6.heap.size W6 Z) rfl (Below.refl _ _).drew fun hS6 => ?_
      refine takeD (i := 0) (d := 38) (v := .pointer (some ⟨X.heap.size, 0, none⟩)) rfl rfl (by kernel_rfl) (by kernel_rfl) (by kernel_rfl) (fun c a w h => h) (yieldsIf_op rfl (fun w => by first | rfl | kernel_rfl | (go_simp; done))) hS6 ?_
      simp only [List.setIfInBounds_toArray, List.set_cons_succ, List.set_cons_zero]
      refine takeD (i := 1) (d := 39) (v := .bool true) rfl rfl (by kernel_rfl) (by kernel_rfl) (by kernel_rfl) (fun c a w h => h) (.inl ⟨by first | rfl | kernel_rfl, fun W' h => by have q0 : W'.cell? ⟨X.heap.size, 0, none⟩ = some (.bool true) := (by rw [(hF6 W' h).2.2.1.cell?, ← HL.out]; rfl); go_simp⟩) hS6 ?_
      simp only [List.setIfInBounds_toArray, List.set_cons_succ, List.set_cons_zero]
      refine takeD (i := 2) (d := 40) (v := .bool true) rfl rfl (by kernel_rfl) (by kernel_rfl) (by kernel_rfl) (fun c a w h => h) (yieldsIf_op rfl (fun w => by first | rfl | kernel_rfl | (go_simp; done))) hS6 ?_
      simp only [List.setIfInBounds_toArray, List.set_cons_succ, List.set_cons_zero]
      refine takeD (i := 3) (d := 41) (v := .pointer (some ⟨X.heap.size, 1, none⟩)) rfl rfl (by kernel_rfl) (by kernel_rfl) (by kernel_rfl) (fun c a w h => h) (yieldsIf_op rfl (fun w => by first | rfl | kernel_rfl | (go_simp; done))) hS6 ?_
      simp only [List.setIfInBounds_toArray, List.set_cons_succ, List.set_cons_zero]
      refine takeD (i := 4) (d := 42) (v := .agg CV) rfl rfl (by kernel_rfl) (by kernel_rfl) (by kernel_rfl) (fun c a w h => h) (yieldsIf_load (f := Value.bool) (l := p.set) (aggVarsL _ HP.out) (.tmp 41) rfl X.heap.size 1 rfl (fun W' h => hV16 W' h) HCV.out rfl) hS6 ?_
      simp only [List.setIfInBounds_toArray, List.set_cons_succ, List.set_cons_zero]
      refine takeD (i := 5) (d := 43) (v := .agg C1) rfl rfl (by kernel_rfl) (by kernel_rfl) (by kernel_rfl) (fun c a w h => h) (yieldsIf_load (f := oV) (l := s.cs) (aggSt _) (.tmp 11) rfl (X.heap.size + 2) 0 rfl (fun W' h => (hF6 W' h).2.2.2.2.1.at) HC1.out rfl) hS6 ?_
      simp only [List.setIfInBounds_toArray, List.set_cons_succ, List.set_cons_zero]
      refine takeD (i := 8) (d := 46) (v := .pointer (some ⟨X.heap.size, 1, none⟩)) rfl rfl (by kernel_rfl) (by kernel_rfl) (by kernel_rfl) (fun c a w h => h) (yieldsIf_op rfl (fun w => by first | rfl | kernel_rfl | (go_simp; done))) hS6 ?_
      simp only [List.setIfInBounds_toArray, List.set_cons_succ, List.set_cons_zero]
      refine takeD (i := 9) (d := 47) (v := .agg CV) rfl rfl (by kernel_rfl) (by kernel_rfl) (by kernel_rfl) (fun c a w h => h) (yieldsIf_load (f := Value.bool) (l := p.set) (aggVarsL _ HP.out) (.tmp 46) rfl X.heap.size 1 rfl (fun W' h => hV16 W' h) HCV.out rfl) hS6 ?_
      simp only [List.setIfInBounds_toArray, List.set_cons_succ, List.set_cons_zero]
      refine wpAnyH_ready (rs := [6]) (by kernel_rfl) (by simp) (AllReadyH.cons rfl (fun K' hK => ?_) AllReadyH.nil)
      refine callD (d := 44) (g := 30) (args := #[.agg C1]) rfl rfl (by first | kernel_rfl | (simp [execOp, resolve, invoke, Act.eval]) | go_simp) ?_
      refine (hst.rd _ C1 HC1).mono ?_
      rintro e7 W7 ⟨C7, rfl, HC7, hB7⟩
      replace hS6 := hS6.trans (hB7.mono hS6.size)
      refine ⟨_, rfl, hK.out _ _ hS6 fun _ => ?_⟩
      clear hK hB7
      simp only [List.setIfInBounds_toArray, List.set_cons_succ, List.set_cons_zero]
      refine wpAnyH_ready (rs := [7]) (by kernel_rfl) (by simp) (AllReadyH.cons rfl (fun K' hK => ?_) AllReadyH.nil)
      refine callD (d := 45) (g := 29) (args := #[.agg CV, .agg C7]) rfl rfl (by first | kernel_rfl | (simp [execOp, resolve, invoke, Act.eval]) | go_simp) ?_
      refine (rOr _ p.set (rdV s) HP.out (rdV_length s) CV C7 HCV HC7).mono ?_
      rintro e8 W8 ⟨C8, rfl, HC8, hB8⟩
      replace hS6 := hS6.trans (hB8.mono hS6.size)
      refine ⟨_, rfl, hK.out _ _ hS6 fun _ => ?_⟩
      clear hK hB8
      simp only [List.setIfInBounds_toArray, List.set_cons_succ, List.set_cons_zero]
      refine takeD (i := 10) (d := 48) (v := .bool (orV p.set (rdV s) != p.set)) rfl rfl (by kernel_rfl) (by kernel_rfl) (by kernel_rfl) (fun c a w h => h) (yieldsIf_op rfl (fun w => exec_neq_vars (.tmp 45) (.tmp 47) rfl (orV p.set (rdV s)) p.set (orV_length HP.out (rdV_length s)) HP.out HC8.out HCV.out rfl rfl w)) hS6 ?_
      simp only [List.setIfInBounds_toArray, List.set_cons_succ, List.set_cons_zero]
      refine takeD (i := 11) (d := 49) (v := .bool (orV p.set (rdV s) != p.set)) rfl rfl (by kernel_rfl) (by kernel_rfl) (by kernel_rfl) (fun c a w h => h) (yieldsIf_op rfl (fun w => by first | rfl | kernel_rfl | (go_simp; done))) hS6 ?_
      simp only [List.setIfInBounds_toArray, List.set_cons_succ, List.set_cons_zero]
      refine wpAnyH_done (by kernel_rfl) ?_ _
      have hb8 := (hF6 W8 hS6)
      have cw := hb8.1.cw
      have hV8 := HV6.out.below hS6
      have HU8 := Lib.hid (Upd.of_below (V.E lp) hS6 (Nat.le_refl _))
      have HV8 := Lib.hid hV8
      clear hb8 hS6 hF6 hV16 hV8
      cases hne : (orV p.set (rdV s) != p.set) with
      | false =>
        have hm : markS s i p lf rp = { rp with reach := rp.reach.set i p.live } := by
          unfold markS
          simp only [if_neg hmk0]
          rw [if_neg (by intro h; simp at hne; exact h.2 hne)]
        have HM := Lib.hid hm
        clear hm hne
        go_wp2_with fail
        go_meet
        exact ⟨HU8.out, by rw [HM.out]; exact HV8.out⟩
      | true =>
        have hm : markS s i p lf rp = ({ rp with reach := rp.reach.set i p.live } : Rp).wrong i 170 := by
          unfold markS
          simp only [if_neg hmk0]
          rw [if_pos ⟨HL.out, by simpa using hne⟩]
        have HM := Lib.hid hm
        clear hm hne
        go_wp2_with fail
        refine (rWrong W8 V.rb _ { rp with reach := rp.reach.set i p.live } i 170 HV8.out.rep).mono ?_
        rintro en W9 ⟨rfl, hr9, hu9⟩
        have hV9 : WVar V S W9 lp lf (({ rp with reach := rp.reach.set i p.live } : Rp).wrong i 170) := by
          have h := HV8.out
          refine ⟨hr9, ?_, ?_, ?_⟩
          · have := h.reach.upd hu9 (by show ¬ V.qb = V.rb; exact fun e => hF0.out.ne.1 e.symm)
            unfold Rp.wrong; split <;> exact this
          · have := h.len
            unfold Rp.wrong; split <;> exact this
          · rcases h.left with h1 | ⟨l, b, h1, h2, h3⟩
            · exact .inl h1
            · exact .inr ⟨l, b, h1, h2, h3.upd hu9 (by show ¬ l = V.rb; exact (hL0.out l h1).2.2.1)⟩
        have hU9 := HU8.out.trans hu9 (fun k _ h => .inl h)
        have H9 := Lib.hid (And.intro hU9 hV9)
        clear hr9 hu9 hV9 hU9 cw
        go_wp2_with fail
        go_meet
        exact ⟨H9.out.1, by rw [HM.out]; exact H9.out.2⟩
  case rest =>
    obtain ⟨hU7, hV7⟩ := hcut
    clear e0
    have HFZ : Hid (∀ Z, Upd (V.E lp) wc Z → WFix V S B Z ∧ Upd (V.E lp) X Z ∧ Row Value.bool Z X.heap.size 105 p.cs ∧ Row Value.bool Z (X.heap.size + 1) 105 zPl ∧ Row oV Z (X.heap.size + 2) 45 s.cs ∧ X.heap.size + 3 ≤ Z.heap.size) := Lib.hid fun Z hZ => HF.out Z (hU7.trans hZ (fun k _ h => h))
    have HV7 := Lib.hid hV7
    clear hU7 hV7 HF HV6 hs6
    have e0 : wc.cell? ⟨X.heap.size + 2, 0, none⟩ = some (.int .i64 s.kind) := by rw [(HFZ.out wc (Upd.refl _ _)).2.2.2.2.1.cell?];  rfl
    obtain ⟨hF7, hU7, hR7, hZ7, hs7, hz7⟩ := HFZ.out wc (Upd.refl _ _)
    have HF7 := Lib.hid hF7
    have hsd7 : StD wc s := HSD.out.below hF7.below
    have HSD7 := Lib.hid hsd7
    clear hF7 hU7 hR7 hZ7 hz7 hsd7
    go_wp2_with (first
      | ((with_reducible refine load_agg (f := oV) (l := s.cs) (aggSt _) (.tmp 11) ?_ ?_ (X.heap.size + 2) 0 ?_ hs7.at HC1.out ?_); rfl; rfl; rfl))
    refine (hst.sv wc C1 HSD7.out HC1).mono ?_
    rintro ev Wa ⟨Ca, rfl, HCa, hBa⟩
    rw [hfl]
    clear hs7 e0 k10 k11 k12 k14 k15
    have hUa := Upd.of_below (V.E lp) hBa (Nat.le_refl _)
    have hVa := HV7.out.below hBa
    have hz8 := (HFZ.out Wa hUa).2.2.2.2.2
    have hwc8 : wc.heap.size ≤ Wa.heap.size := hUa.size
    have hN0 : Row Value.bool (Wa.alloc (.cells zVarsC 89)) Wa.heap.size 89 zVars := Row.new _ _ rfl
    have hUa1 := hUa.alloc (.cells zVarsC 89)
    have hVa1 := hVa.below ((Below.refl Wa.heap.size Wa).alloc (Nat.le_refl _) (.cells zVarsC 89))
    have HLv := Lib.hid (svV_length s)
    clear hUa hVa hBa
    go_upto_region 23 with (first
      | ((with_reducible refine store_agg (f := Value.bool) (l := zVars) (l' := svV s) (t := 89) (C := Ca) (aggVarsL _ HLv.out) (.tmp 14) (.tmp 100) ?_ ?_ Wa.heap.size ?_ ?_ ?_ hN0 ?_ bV_one ?_); rfl; rfl; rfl; exact HCa.out; rfl; exact HLv.out; intro Wb hsb hGb hzb))
    have hUb : Upd (V.E lp) wc Wb := hUa1.grown hGb (fun b e => by cases e; exact .inr (by omega))
    have HVB := Lib.hid (hVa1.grow HEn.out hGb (by omega))
    have HFB : Hid (∀ Z, Upd (V.E lp) Wb Z → WFix V S B Z ∧ Upd (V.E lp) X Z ∧ Row Value.bool Z X.heap.size 105 p.cs ∧ Row Value.bool Z (X.heap.size + 1) 105 zPl ∧ Row oV Z (X.heap.size + 2) 45 s.cs ∧ X.heap.size + 3 ≤ Z.heap.size) := Lib.hid fun Z hZ => HFZ.out Z (hUb.trans hZ (fun k _ h => h))
    have HN14 : Hid (∀ Z, Upd (V.E lp) Wb Z → Row Value.bool Z Wa.heap.size 89 (svV s)) := Lib.hid fun Z hZ => hsb.upd hZ (HEn.out _ (by omega))
    clear hUa1 hVa1 hN0 hsb hGb hzb hUb HFZ
    generalize Wa.heap.size = n14 at HN14 hz8 hwc8 ⊢
    obtain ⟨CV, HCV⟩ : ∃ CV, Hid (CV = (p.set.map Value.bool).toArray) := ⟨_, Lib.hid rfl⟩
    obtain ⟨CA, HCA⟩ : ∃ D, Hid (D = ((p.live :: orV p.set (svV s)).map Value.bool).toArray) := ⟨_, Lib.hid rfl⟩
    have HLo := Lib.hid (orV_length HP.out (svV_length s))
    have HLo17 : Hid ((p.live :: orV p.set (svV s)).length = 17) := Lib.hid (by simp [HLo.out])
    go_cut [16] (fun s16 wx => ∃ n16, s16 = .pointer (some ⟨n16, 0, none⟩) ∧ Row Value.bool wx n16 105 (p.live :: orV p.set (svV s)) ∧ Upd (V.E lp) Wb wx ∧ WVar V S wx lp lf (markS s i p lf rp) ∧ X.heap.size ≤ n16)
    case first =>
      refine region_headsT (S := fun Z => Upd (V.E lp) Wb Z) 8 rfl (by kernel_rfl) (Upd.refl _ _).drew fun hS8 => ?_
      refine headsT_takeD (i := 0) (d := 102) (v := .pointer (some ⟨X.heap.size, 0, none⟩)) (by kernel_rfl) rfl rfl (by omega) (by kernel_rfl) (by kernel_rfl) (fun c a w h => h) (yieldsIf_op rfl (fun w => by first | rfl | kernel_rfl | (go_simp; done))) hS8 ?_
      simp only [put_none, List.setIfInBounds_toArray, List.set_cons_succ, List.set_cons_zero]
      refine headsT_takeD (i := 1) (d := 103) (v := .bool p.live) (by kernel_rfl) rfl rfl (by omega) (by kernel_rfl) (by kernel_rfl) (fun c a w h => h) (.inl ⟨by first | rfl | kernel_rfl, fun W' h => by have q0 : W'.cell? ⟨X.heap.size, 0, none⟩ = some (.bool p.live) := (by rw [(HFB.out W' h).2.2.1.cell?]; rfl); go_simp⟩) hS8 ?_
      simp only [put_none, List.setIfInBounds_toArray, List.set_cons_succ, List.set_cons_zero]
      refine headsT_takeD (i := 2) (d := 104) (v := .pointer (some ⟨X.heap.size, 1, none⟩)) (by kernel_rfl) rfl rfl (by omega) (by kernel_rfl) (by kernel_rfl) (fun c a w h => h) (yieldsIf_op rfl (fun w => by first | rfl | kernel_rfl | (go_simp; done))) hS8 ?_
      simp only [put_none, List.setIfInBounds_toArray, List.set_cons_succ, List.set_cons_zero]
      refine headsT_takeD (i := 3) (d := 105) (v := .agg CV) (by kernel_rfl) rfl rfl (by omega) (by kernel_rfl) (by kernel_rfl) (fun c a w h => h) (yieldsIf_load (f := Value.bool) (l := p.set) (aggVarsL _ HP.out) (.tmp 104) rfl X.heap.size 1 rfl (fun W' h i hi => by rw [(HFB.out W' h).2.2.1.cell?, Nat.add_comm 1 i]; rfl) HCV.out rfl) hS8 ?_
      simp only [put_none, List.setIfInBounds_toArray, List.set_cons_succ, List.set_cons_zero]
      refine headsT_takeD (i := 4) (d := 106) (v := .agg Ca) (by kernel_rfl) rfl rfl (by omega) (by kernel_rfl) (by kernel_rfl) (fun c a w h => h) (yieldsIf_load (f := Value.bool) (l := svV s) (aggVarsL _ HLv.out) (.tmp 14) rfl n14 0 rfl (fun W' h => (HN14.out W' h).at) HCa.out rfl) hS8 ?_
      simp only [put_none, List.setIfInBounds_toArray, List.set_cons_succ, List.set_cons_zero]
      have hVd := HVB.out.below (Below.refl Wb.heap.size Wb).drew
      generalize Wb.drew = Wd at hS8 hVd ⊢
      refine headsT_ready (rs := [5, 7]) (by kernel_rfl) (by simp) (AllReadyT.cons (by omega) rfl (fun K' hK => ?_) (AllReadyT.cons (by omega) rfl (fun K' hK => ?_) AllReadyT.nil))
      · refine callD (d := 107) (g := 29) (args := #[.agg CV, .agg Ca]) rfl rfl (by first | kernel_rfl | (simp [execOp, resolve, invoke, Act.eval]) | go_simp) ?_
        refine (rOr _ p.set (svV s) HP.out HLv.out CV Ca HCV HCa).mono ?_
        rintro ev Wo ⟨Co, rfl, HCo, hBo⟩
        have hS9 := hS8.below hBo hS8.size
        have hVo := hVd.below hBo
        refine ⟨_, rfl, hK.out _ _ hS9 fun _ => ?_⟩
        clear hK hS8 hVd
        have hS8 := hS9
        have hVd := hVo
        clear hS9 hVo hBo
        simp only [List.setIfInBounds_toArray, List.set_cons_succ, List.set_cons_zero]
        refine headsT_takeD (i := 6) (d := 108) (v := .agg CA) (by kernel_rfl) rfl rfl (by omega) (by kernel_rfl) (by kernel_rfl) (fun c a w h => h) (yieldsIf_op rfl (fun w => by rw [HCA.out]; exact run_build_place (.tmp 103) (.tmp 107) rfl p.live (orV p.set (svV s)) HLo.out rfl HCo.out rfl w)) hS8 ?_
        simp only [put_none, List.setIfInBounds_toArray, List.set_cons_succ, List.set_cons_zero]
        refine headsT_ready (rs := [7]) (by kernel_rfl) (by simp) (AllReadyT.cons (by omega) rfl (fun K' hK => ?_) AllReadyT.nil)
        refine allocD (d := 16) (ob := .cells zPlC 105) rfl rfl (by first | rfl | kernel_rfl) ?_
        have hNn : Row Value.bool (Wo.alloc (.cells zPlC 105)) Wo.heap.size 105 zPl := Row.new _ _ rfl
        have hS9 := hS8.alloc (.cells zPlC 105)
        have hVo := hVd.below ((Below.refl Wo.heap.size Wo).alloc (Nat.le_refl _) (.cells zPlC 105))
        refine hK.out _ _ hS9 fun _ => ?_
        have hzn : X.heap.size + 3 ≤ Wo.heap.size := (HFB.out _ hS8).2.2.2.2.2
        have hwo0 := hS8.size
        clear hK hS8 hVd
        have hS8 := hS9
        have hVd := hVo
        clear hS9 hVo
        simp only [List.setIfInBounds_toArray, List.set_cons_succ, List.set_cons_zero]
        have hwo : Wb.heap.size ≤ Wo.heap.size := hwo0
        refine headsT_tail (by kernel_rfl) ?_
        simp only [List.drop]
        generalize Wo.heap.size = n16 at hNn hzn hwo hwo0 ⊢
        go_wp2_with (first
          | ((with_reducible refine store_agg (f := Value.bool) (l := zPl) (l' := p.live :: orV p.set (svV s)) (t := 105) (C := CA) (aggPl _ HLo17.out) (.tmp 16) (.tmp 108) ?_ ?_ n16 ?_ ?_ ?_ hNn ?_ bV_one ?_); rfl; rfl; rfl; exact HCA.out; rfl; exact HLo17.out; intro We hse hGe hze))
        go_meet
        exact ⟨n16, rfl, hse, hS8.grown hGe (fun b e => by cases e; exact .inr hwo), hVd.grow HEn.out hGe (by omega), by omega⟩
      · refine allocD (d := 16) (ob := .cells zPlC 105) rfl rfl (by first | rfl | kernel_rfl) ?_
        have hNn : Row Value.bool (Wd.alloc (.cells zPlC 105)) Wd.heap.size 105 zPl := Row.new _ _ rfl
        have hS9 := hS8.alloc (.cells zPlC 105)
        have hVo := hVd.below ((Below.refl Wd.heap.size Wd).alloc (Nat.le_refl _) (.cells zPlC 105))
        refine hK.out _ _ hS9 fun _ => ?_
        have hzn : X.heap.size + 3 ≤ Wd.heap.size := (HFB.out _ hS8).2.2.2.2.2
        have hwo0 := hS8.size
        clear hK hS8 hVd
        have hS8 := hS9
        have hVd := hVo
        clear hS9 hVo
        simp only [List.setIfInBounds_toArray, List.set_cons_succ, List.set_cons_zero]
        have hwo : Wb.heap.size ≤ Wd.heap.size := hwo0
        refine headsT_ready (rs := [5]) (by kernel_rfl) (by simp) (AllReadyT.cons (by omega) rfl (fun K' hK => ?_) AllReadyT.nil)
        refine callD (d := 107) (g := 29) (args := #[.agg CV, .agg Ca]) rfl rfl (by first | kernel_rfl | (simp [execOp, resolve, invoke, Act.eval]) | go_simp) ?_
        refine (rOr _ p.set (svV s) HP.out HLv.out CV Ca HCV HCa).mono ?_
        rintro ev Wo ⟨Co, rfl, HCo, hBo⟩
        have hS9 := hS8.below hBo hS8.size
        have hVo := hVd.below hBo
        replace hNn := hNn.below hBo hNn.lt
        refine ⟨_, rfl, hK.out _ _ hS9 fun _ => ?_⟩
        clear hK hS8 hVd
        have hS8 := hS9
        have hVd := hVo
        clear hS9 hVo hBo
        simp only [List.setIfInBounds_toArray, List.set_cons_succ, List.set_cons_zero]
        refine headsT_takeD (i := 6) (d := 108) (v := .agg CA) (by kernel_rfl) rfl rfl (by omega) (by kernel_rfl) (by kernel_rfl) (fun c a w h => h) (yieldsIf_op rfl (fun w => by rw [HCA.out]; exact run_build_place (.tmp 103) (.tmp 107) rfl p.live (orV p.set (svV s)) HLo.out rfl HCo.out rfl w)) hS8 ?_
        simp only [put_none, List.setIfInBounds_toArray, List.set_cons_succ, List.set_cons_zero]
        refine headsT_tail (by kernel_rfl) ?_
        simp only [List.drop]
        generalize Wd.heap.size = n16 at hNn hzn hwo hwo0 ⊢
        go_wp2_with (first
          | ((with_reducible refine store_agg (f := Value.bool) (l := zPl) (l' := p.live :: orV p.set (svV s)) (t := 105) (C := CA) (aggPl _ HLo17.out) (.tmp 16) (.tmp 108) ?_ ?_ n16 ?_ ?_ ?_ hNn ?_ bV_one ?_); rfl; rfl; rfl; exact HCA.out; rfl; exact HLo17.out; intro We hse hGe hze))
        go_meet
        exact ⟨n16, rfl, hse, hS8.grown hGe (fun b e => by cases e; exact .inr hwo), hVd.grow HEn.out hGe (by omega), by omega⟩
    case rest =>
      obtain ⟨n16, rfl, hs16, hU16, hV16, hz16⟩ := hcut
      have HFB2 : Hid (∀ Z, Upd (V.E lp) wc Z → WFix V S B Z ∧ Upd (V.E lp) X Z ∧ Row Value.bool Z X.heap.size 105 p.cs ∧ Row Value.bool Z (X.heap.size + 1) 105 zPl ∧ Row oV Z (X.heap.size + 2) 45 s.cs ∧ X.heap.size + 3 ≤ Z.heap.size) := Lib.hid fun Z hZ => HFB.out Z (hU16.trans hZ (fun k _ h => h))
      have HVB2 := Lib.hid hV16
      have HN12 : Hid (∀ Z, Upd (V.E lp) wc Z → Row Value.bool Z n16 105 (p.live :: orV p.set (svV s))) := Lib.hid fun Z hZ => hs16.upd hZ (HEn.out _ hz16)
      clear HFB HVB HN14 hU16 hV16 hs16
      have HFB := HFB2
      have HVB := HVB2
      clear HFB2 HVB2
      have hst1 : stp S i t e p lf rp = (joinP ⟨p.live, orV p.set (svV s)⟩ (wk S e p lf (markS s i p lf rp)).1, (wk S e p lf (markS s i p lf rp)).2) := by
        unfold stp
        simp only [at'_of hs]
        rw [if_neg h10, if_neg h11, if_neg h12, if_neg (by rintro (h | h); exact h14 h; exact h15 h), if_pos hfl]
      have HST := Lib.hid hst1
      have HLp : Hid ((⟨p.live, orV p.set (svV s)⟩ : Pl).set.length = 16) := HLo
      clear hst1
      go_wp2_with fail
      refine region_headsT (S := fun Z => Upd (V.E lp) wc Z) 8 rfl (by kernel_rfl) (Upd.refl _ _).drew fun hS8 => ?_
      refine headsT_takeD (i := 0) (d := 110) (v := .agg CA) (by kernel_rfl) rfl rfl (by omega) (by kernel_rfl) (by kernel_rfl) (fun c a w h => h) (yieldsIf_load (f := Value.bool) (l := p.live :: orV p.set (svV s)) (aggPl _ HLo17.out) (.tmp 16) rfl n16 0 rfl (fun W' h => (HN12.out W' h).at) HCA.out rfl) hS8 ?_
      simp only [put_none, List.setIfInBounds_toArray, List.set_cons_succ, List.set_cons_zero]
      refine headsT_takeD (i := 1) (d := 111) (v := .func (.func 49) #[] #[.pointer (some ⟨V.pb, 0, none⟩), .pointer (some ⟨V.tb, 0, none⟩)]) (by kernel_rfl) rfl rfl (by omega) (by kernel_rfl) (by kernel_rfl) (fun c a w h => h) (.inl ⟨by first | rfl | kernel_rfl, fun W' h => by have q0 := (HFB.out W' h).1.cb; go_simp⟩) hS8 ?_
      simp only [put_none, List.setIfInBounds_toArray, List.set_cons_succ, List.set_cons_zero]
      refine headsT_takeD (i := 2) (d := 112) (v := .pointer (some ⟨X.heap.size + 2, 32, none⟩)) (by kernel_rfl) rfl rfl (by omega) (by kernel_rfl) (by kernel_rfl) (fun c a w h => h) (yieldsIf_op rfl (fun w => by first | rfl | kernel_rfl | (go_simp; done))) hS8 ?_
      simp only [put_none, List.setIfInBounds_toArray, List.set_cons_succ, List.set_cons_zero]
      refine headsT_takeD (i := 3) (d := 113) (v := .int .i64 s.e) (by kernel_rfl) rfl rfl (by omega) (by kernel_rfl) (by kernel_rfl) (fun c a w h => h) (.inl ⟨by first | rfl | kernel_rfl, fun W' h => by have q0 : W'.cell? ⟨X.heap.size + 2, 32, none⟩ = some (.int .i64 s.e) := (by rw [(HFB.out W' h).2.2.2.2.1.cell?]; rfl); go_simp⟩) hS8 ?_
      simp only [put_none, List.setIfInBounds_toArray, List.set_cons_succ, List.set_cons_zero]
      refine headsT_takeD (i := 4) (d := 114) (v := .agg C) (by kernel_rfl) rfl rfl (by omega) (by kernel_rfl) (by kernel_rfl) (fun c a w h => h) (yieldsIf_load (f := Value.bool) (l := p.cs) (aggPl _ (p.cs_length HP.out)) (.tmp 8) rfl X.heap.size 0 rfl (fun W' h => (HFB.out W' h).2.2.1.at) HC.out rfl) hS8 ?_
      simp only [put_none, List.setIfInBounds_toArray, List.set_cons_succ, List.set_cons_zero]
      refine headsT_takeD (i := 5) (d := 115) (v := lpV lp) (by kernel_rfl) rfl rfl (by omega) (by kernel_rfl) (by kernel_rfl) (fun c a w h => h) (yieldsIf_op rfl (fun w => by first | rfl | kernel_rfl | (go_simp; done))) hS8 ?_
      simp only [put_none, List.setIfInBounds_toArray, List.set_cons_succ, List.set_cons_zero]
      refine headsT_ready (rs := [6]) (by kernel_rfl) (by simp) (AllReadyT.cons (by omega) rfl (fun K' hK => ?_) AllReadyT.nil)
      refine callD (d := 116) (g := 49) (args := #[.int .i64 s.e, .agg C, lpV lp, .pointer (some ⟨V.pb, 0, none⟩), .pointer (some ⟨V.tb, 0, none⟩)]) rfl rfl (by first | kernel_rfl | (simp [execOp, resolve, invoke, Act.eval]) | go_simp) ?_
      refine (IHe _ p HP.out lp _ _ C HC (HFB.out _ hS8).1 hL0.out (HVB.out.below (Below.refl _ _).drew)).mono ?_
      rintro ev We ⟨Ce, rfl, HCe, HLe, hUe, hVe⟩
      replace hS8 := hS8.trans hUe (fun k _ h => h)
      refine ⟨_, rfl, hK.out _ _ hS8 fun _ => ?_⟩
      clear hK hUe
      simp only [List.setIfInBounds_toArray, List.set_cons_succ, List.set_cons_zero]
      refine headsT_ready (rs := [7]) (by kernel_rfl) (by simp) (AllReadyT.cons (by omega) rfl (fun K' hK => ?_) AllReadyT.nil)
      refine callD (d := 117) (g := 48) (args := #[.agg CA, .agg Ce]) rfl rfl (by first | kernel_rfl | (simp [execOp, resolve, invoke, Act.eval]) | go_simp) ?_
      refine (rJoin _ ⟨p.live, orV p.set (svV s)⟩ _ HLp.out HLe.out CA Ce HCA HCe).mono ?_
      rintro ev Wj ⟨Cj, rfl, HCj, hBj⟩
      have hVj := hVe.below hBj
      replace hS8 := hS8.below hBj hS8.size
      refine ⟨_, rfl, hK.out _ _ hS8 fun _ => ?_⟩
      clear hK hBj hVe
      simp only [List.setIfInBounds_toArray, List.set_cons_succ, List.set_cons_zero]
      refine headsT_tail (by kernel_rfl) ?_
      simp only [List.drop]
      have hZj := (HFB.out _ hS8).2.2.2.1
      have HUj := Lib.hid (HFB.out _ hS8).2.1
      have HVj := Lib.hid hVj
      have HLj := Lib.hid (joinP_length (a := ⟨p.live, orV p.set (svV s)⟩) HLp.out HLe.out)
      clear hVj hS8 HFB HN12 HVB
      have HLj17 := Lib.hid ((joinP ⟨p.live, orV p.set (svV s)⟩ (wk S e p lf (markS s i p lf rp)).1).cs_length HLj.out)
      go_wp2_with (first
        | ((with_reducible refine store_agg (f := Value.bool) (l := zPl) (l' := (joinP ⟨p.live, orV p.set (svV s)⟩ (wk S e p lf (markS s i p lf rp)).1).cs) (t := 105) (C := Cj) (aggPl _ HLj17.out) (.tmp 10) (.tmp 117) ?_ ?_ (X.heap.size + 1) ?_ ?_ ?_ hZj ?_ bV_one ?_); rfl; rfl; rfl; exact HCj.out; rfl; exact HLj17.out; intro Wr hsr hGr hzr))
      refine bodyPost_ret (results_agg (f := Value.bool) (l := (joinP ⟨p.live, orV p.set (svV s)⟩ (wk S e p lf (markS s i p lf rp)).1).cs) rfl _ (aggPl _ HLj17.out) (X.heap.size + 1) 0 rfl hsr.at) rfl ?_
      rw [HST.out]
      exact ⟨_, rfl, Lib.hid rfl, HLj, HUj.out.grown hGr (fun b e => by cases e; exact .inr (by omega)), HVj.out.grow HEn.out hGr (by omega)⟩
end Go.Proofs.YtllomcmhkocdfaaGreatDoor

/- The walk through a statement: those that cannot fail. -/
namespace Go.Proofs.YtllomcmhkocdfaaGreatDoor
open Go.RowKit Mem
set_option maxRecDepth 100000

set_option maxHeartbeats 16000000 in
theorem rSt_Plain {S : List St} {B : List (List Int)} (V : WEnv) (hS : S.length ≤ 64) (i : Nat) (s : St) (hs : S[i]? = some s) (hst : StWalk s) (t e : Blk) (h10 : s.kind ≠ 10) (h11 : s.kind ≠ 11) (h12 : s.kind ≠ 12) (h14 : s.kind ≠ 14) (h15 : s.kind ≠ 15) (hfl : flB s = false) (IHt : BlkC V S B t s.t) (IHe : BlkC V S B e s.e) : StC V S B i t e := by
  intro X p hp lp lf rp C HC hF hL hV
  obtain ⟨sb, so, hsp, hA0, hsbl, hin⟩ := hF.pg.stmt hs
  have hil : i < S.length := (List.getElem?_eq_some_iff.1 hs).1
  have hi1 : (i : Int) < (S.length : Int) := by omega
  have hE := hV.lts
  have hF0 := Lib.hid hF
  have hV0 := Lib.hid hV
  have hL0 := Lib.hid hL
  have HP := Lib.hid hp
  have HSD := Lib.hid (hF.pg.sd s (List.mem_of_getElem? hs))
  have c0 := hF.box.c0
  rw [hsp, hF.pg.ns] at c0
  have hAX : At oV X sb (so + i * 33) s.cs := hA0.below hF.below hsbl
  have hsX : sb < X.heap.size := Nat.lt_of_lt_of_le hsbl hF.below.size
  have hpbX := hF.top.1
  have hrbX := hV.rep.lt
  have hqbX := hV.reach.lt
  have r0 : X.cell? ⟨V.rb, 0, none⟩ = some (.slice (some ⟨V.qb, 0, none⟩) S.length S.length) := by rw [hV.rep.cell?]; rfl
  have hq0 : ∃ b, X.cell? ⟨V.qb, i, none⟩ = some (.bool b) := ⟨_, by rw [hV.reach.cell?, List.getElem?_eq_getElem (by rw [hV.len]; exact hil)]; rfl⟩
  obtain ⟨bq, q0⟩ := hq0
  have qf := hV.reach.frozen i
  clear hF hV hL hp hA0 hsp hin hsbl
  have HC0 := Lib.hid (And.intro c0 (And.intro r0 (And.intro q0 qf)))
  clear c0 r0 q0 qf
  go_enter Tryz.func47, Tryz.ntmps47
  go_upto_region 1 with (fail)
  obtain ⟨W, hW, hR, hZ, hB, hsW⟩ : ∃ W, (X.alloc (.cells C 105)).alloc (.cells zPlC 105) = W ∧ Row Value.bool W X.heap.size 105 p.cs ∧ Row Value.bool W (X.heap.size + 1) 105 zPl ∧ Below X.heap.size X W ∧ W.heap.size = X.heap.size + 2 :=
    ⟨_, rfl, Row.alloc (Row.new X _ (by rw [HC.out])) _, heap_new' _ _ _ (by simp), ((Below.refl _ _).alloc (Nat.le_refl _) _).alloc (by simp) _, by simp⟩
  rw [hW]
  clear hW
  have c0 := (hB.cell (p := ⟨V.pb, 0, none⟩) hpbX).trans HC0.out.1
  have hA1 := hAX.below hB hsX
  obtain ⟨C1, HC1⟩ : ∃ C1, Hid (C1 = (s.cs.map oV).toArray) := ⟨_, Lib.hid rfl⟩
  have hZ1 : Row oV (W.alloc (.cells zStmtC 45)) (X.heap.size + 2) 45 (stC 0 0 ⟨#[]⟩ 0 0) := by rw [← hsW]; exact Row.new _ _ rfl
  go_upto_region 2 with (first
    | ((with_reducible refine load_agg (f := oV) (l := s.cs) (aggSt _) (.tmp 20) ?_ ?_ sb (so + i * 33) ?_ hA1 HC1.out ?_); rfl; rfl; rfl)
    | ((with_reducible refine store_agg (f := oV) (l := stC 0 0 ⟨#[]⟩ 0 0) (l' := s.cs) (t := 45) (C := C1) (aggSt _) (.tmp 11) (.tmp 21) ?_ ?_ (X.heap.size + 2) ?_ ?_ ?_ hZ1 ?_ oV_one ?_); rfl; rfl; rfl; exact HC1.out; rfl; rfl; intro W5 hs5 hG5 hz5))
  have hB5 : Below X.heap.size X W5 := (hB.alloc hB.size (.cells zStmtC 45)).grown hG5 (by simp; omega) (fun k e => by cases e; omega)
  have hR5 : Row Value.bool W5 X.heap.size 105 p.cs := (hR.alloc _).grown hG5 (by simp)
  have hZ5 : Row Value.bool W5 (X.heap.size + 1) 105 zPl := (hZ.alloc _).grown hG5 (by simp)
  have hs5' : X.heap.size + 3 ≤ W5.heap.size := Nat.lt_of_lt_of_le (by omega) hs5.lt
  clear c0 hA1 hZ1 hR hZ hB hG5 hz5 hsW hAX
  have r0 := (hB5.cell (p := ⟨V.rb, 0, none⟩) hrbX).trans HC0.out.2.1
  have q0 := (hB5.cell (p := ⟨V.qb, i, none⟩) hqbX).trans HC0.out.2.2.1
  have qf := (hB5.frozen (p := ⟨V.qb, i, none⟩) hqbX).trans HC0.out.2.2.2
  have d0 : W5.cell? ⟨X.heap.size, 0, none⟩ = some (.bool p.live) := by rw [hR5.cell?]; rfl
  have HX := Lib.hid (And.intro hB5 (And.intro hR5 (And.intro hZ5 hs5)))
  clear hB5 hR5 hZ5 hs5
  go_upto_region 3 with (fail)
  obtain ⟨W6, hW6⟩ : ∃ W6, W5.setCell ⟨V.qb, i, none⟩ (.bool p.live) = W6 := ⟨_, rfl⟩
  have hs6 : X.heap.size + 3 ≤ W6.heap.size := by rw [← hW6]; simpa using hs5'
  have HV6 : Hid (WVar V S W6 lp lf { rp with reach := rp.reach.set i p.live }) := Lib.hid (by rw [← hW6]; exact (hV0.out.below HX.out.1).setReach (hF0.out.below' HX.out.1) hL0.out i p.live)
  have hU6 : Upd (V.E lp) X W6 := by rw [← hW6]; exact (Upd.of_below _ HX.out.1 (Nat.le_refl _)).set (.inl (.inr (.inl rfl))) _ _
  have HF : Hid (∀ Z, Upd (V.E lp) W6 Z → WFix V S B Z ∧ Upd (V.E lp) X Z ∧ Row Value.bool Z X.heap.size 105 p.cs ∧ Row Value.bool Z (X.heap.size + 1) 105 zPl ∧ Row oV Z (X.heap.size + 2) 45 s.cs ∧ X.heap.size + 3 ≤ Z.heap.size) := Lib.hid fun Z hZ => by
    obtain ⟨h1, h2, h3, h4⟩ := HX.out
    have hU : Upd (V.E lp) X Z := hU6.trans hZ (fun k _ h => h)
    have n : ∀ k, X.heap.size ≤ k → ¬ V.E lp k := fun k hk h => absurd (hE k h) (by omega)
    have k2 : Row Value.bool W6 X.heap.size 105 p.cs := by rw [← hW6]; exact h2.set_other (by omega) _ _
    have k3 : Row Value.bool W6 (X.heap.size + 1) 105 zPl := by rw [← hW6]; exact h3.set_other (by omega) _ _
    have k4 : Row oV W6 (X.heap.size + 2) 45 s.cs := by rw [← hW6]; exact h4.set_other (by omega) _ _
    exact ⟨hF0.out.upd hU hL0.out, hU, k2.upd hZ (n _ (Nat.le_refl _)), k3.upd hZ (n _ (by omega)), k4.upd hZ (n _ (by omega)), Nat.le_trans hs6 hZ.size⟩
  rw [hW6]
  clear hW6 r0 q0 qf d0 hs5' HX hU6 HC0
  have hEn : ∀ k, X.heap.size ≤ k → ¬ V.E lp k := fun k hk h => absurd (hE k h) (by omega)
  have HEn := Lib.hid hEn
  clear hEn hE
  have e0 : W6.cell? ⟨X.heap.size + 2, 0, none⟩ = some (.int .i64 s.kind) := by rw [(HF.out W6 (Upd.refl _ _)).2.2.2.2.1.cell?]; rfl
  have k10 : (s.kind == 10) = false := by simpa using h10
  have k11 : (s.kind == 11) = false := by simpa using h11
  have k12 : (s.kind == 12) = false := by simpa using h12
  have k14 : (s.kind == 14) = false := by simpa using h14
  have k15 : (s.kind == 15) = false := by simpa using h15
  have hmk0 : ¬ (s.kind = 12 ∧ lf = none) := fun h => h12 h.1
  go_upto_if 34 with (fail)
  go_cut [52] (fun _ wx => Upd (V.E lp) W6 wx ∧ WVar V S wx lp lf (markS s i p lf rp))
  case first =>
    clear e0
    have hF6 : ∀ Z, Below W6.heap.size W6 Z → WFix V S B Z ∧ Upd (V.E lp) X Z ∧ Row Value.bool Z X.heap.size 105 p.cs ∧ Row Value.bool Z (X.heap.size + 1) 105 zPl ∧ Row oV Z (X.heap.size + 2) 45 s.cs ∧ X.heap.size + 3 ≤ Z.heap.size := fun Z hZ => HF.out Z (Upd.of_below _ hZ (Nat.le_refl _))
    obtain ⟨CV, HCV⟩ : ∃ CV, Hid (CV = (p.set.map Value.bool).toArray) := ⟨_, Lib.hid rfl⟩
    have hV16 : ∀ Z, Below W6.heap.size W6 Z → At Value.bool Z X.heap.size 1 p.set := fun Z hZ i hi => by rw [(hF6 Z hZ).2.2.1.cell?, Nat.add_comm 1 i]; rfl
    cases hlv : p.live with
    | false =>
      have hm : markS s i p lf rp = { rp with reach := rp.reach.set i p.live } := by
        unfold markS
        simp only [if_neg hmk0]
        rw [if_neg (by rw [hlv]; intro h; exact absurd h.1 (by decide))]
      rw [hlv] at hm
      have HM := Lib.hid hm
      have HL := Lib.hid hlv
      clear hm hlv
      go_wp2_with fail
      refine wp_region_held_drew (S := fun Z => Below W6.heap.size W6 Z) rfl (Below.refl _ _).drew fun hS6 => ?_
      refine takeD (i := 0) (d := 38) (v := .pointer (some ⟨X.heap.size, 0, none⟩)) rfl rfl (by kernel_rfl) (by kernel_rfl) (by kernel_rfl) (fun c a w h => h) (yieldsIf_op rfl (fun w => by first | rfl | kernel_rfl | (go_simp; done))) hS6 ?_
      simp only [List.setIfInBounds_toArray, List.set_cons_succ, List.set_cons_zero]
      refine takeD (i := 1) (d := 39) (v := .bool false) rfl rfl (by kernel_rfl) (by kernel_rfl) (by kernel_rfl) (fun c a w h => h) (.inl ⟨by first | rfl | kernel_rfl, fun W' h => by have q0 : W'.cell? ⟨X.heap.size, 0, none⟩ = some (.bool false) := (by rw [(hF6 W' h).2.2.1.cell?, ← HL.out]; rfl); go_simp⟩) hS6 ?_
      simp only [List.setIfInBounds_toArray, List.set_cons_succ, List.set_cons_zero]
      refine takeD (i := 2) (d := 40) (v := .bool false) rfl rfl (by kernel_rfl) (by kernel_rfl) (by kernel_rfl) (fun c a w h => h) (yieldsIf_op rfl (fun w => by first | rfl | kernel_rfl | (go_simp; done))) hS6 ?_
      simp only [List.setIfInBounds_toArray, List.set_cons_succ, List.set_cons_zero]
      refine takeD (i := 3) (d := 41) (v := undef) rfl rfl (by kernel_rfl) (by kernel_rfl) (by kernel_rfl) (fun c a w h => h) (yieldsIf_skip (by first | rfl | kernel_rfl)) hS6 ?_
      simp only [List.setIfInBounds_toArray, List.set_cons_succ, List.set_cons_zero]
      refine takeD (i := 4) (d := 42) (v := undef) rfl rfl (by kernel_rfl) (by kernel_rfl) (by kernel_rfl) (fun c a w h => h) (yieldsIf_skip (by first | rfl | kernel_rfl)) hS6 ?_
      simp only [List.setIfInBounds_toArray, List.set_cons_succ, List.set_cons_zero]
      refine takeD (i := 5) (d := 43) (v := undef) rfl rfl (by kernel_rfl) (by kernel_rfl) (by kernel_rfl) (fun c a w h => h) (yieldsIf_skip (by first | rfl | kernel_rfl)) hS6 ?_
      simp only [List.setIfInBounds_toArray, List.set_cons_succ, List.set_cons_zero]
      refine takeD (i := 6) (d := 44) (v := undef) rfl rfl (by kernel_rfl) (by kernel_rfl) (by kernel_rfl) (fun c a w h => h) (yieldsIf_skip (by first | rfl | kernel_rfl)) hS6 ?_
      simp only [List.setIfInBounds_toArray, List.set_cons_succ, List.set_cons_zero]
      refine takeD (i := 7) (d := 45) (v := undef) rfl rfl (by kernel_rfl) (by kernel_rfl) (by kernel_rfl) (fun c a w h => h) (yieldsIf_skip (by first | rfl | kernel_rfl)) hS6 ?_
      simp only [List.setIfInBounds_toArray, List.set_cons_succ, List.set_cons_zero]
      refine takeD (i := 8) (d := 46) (v := undef) rfl rfl (by kernel_rfl) (by kernel_rfl) (by kernel_rfl) (fun c a w h => h) (yieldsIf_skip (by first | rfl | kernel_rfl)) hS6 ?_
      simp only [List.setIfInBounds_toArray, List.set_cons_succ, List.set_cons_zero]
      refine takeD (i := 9) (d := 47) (v := undef) rfl rfl (by kernel_rfl) (by kernel_rfl) (by kernel_rfl) (fun c a w h => h) (yieldsIf_skip (by first | rfl | kernel_rfl)) hS6 ?_
      simp only [List.setIfInBounds_toArray, List.set_cons_succ, List.set_cons_zero]
      refine takeD (i := 10) (d := 48) (v := undef) rfl rfl (by kernel_rfl) (by kernel_rfl) (by kernel_rfl) (fun c a w h => h) (yieldsIf_skip (by first | rfl | kernel_rfl)) hS6 ?_
      simp only [List.setIfInBounds_toArray, List.set_cons_succ, List.set_cons_zero]
      refine takeD (i := 11) (d := 49) (v := .bool false) rfl rfl (by kernel_rfl) (by kernel_rfl) (by kernel_rfl) (fun c a w h => h) (yieldsIf_op rfl (fun w => by first | rfl | kernel_rfl | (go_simp; done))) hS6 ?_
      simp only [List.setIfInBounds_toArray, List.set_cons_succ, List.set_cons_zero]
      refine wpAnyH_done (by kernel_rfl) ?_ _
      clear hS6
      go_wp2_with fail
      go_meet
      exact ⟨(Upd.refl _ _).drew, by rw [HM.out, ← HL.out]; exact HV6.out.below (Below.refl _ _).drew⟩
    | true =>
      have HL := Lib.hid hlv
      clear hlv
      go_wp2_with fail
      refine wp_region_held_drew (S := fun Z => Below W6.heap.size W6 Z) rfl (Below.refl _ _).drew fun hS6 => ?_
      refine takeD (i := 0) (d := 38) (v := .pointer (some ⟨X.heap.size, 0, none⟩)) rfl rfl (by kernel_rfl) (by kernel_rfl) (by kernel_rfl) (fun c a w h => h) (yieldsIf_op rfl (fun w => by first | rfl | kernel_rfl | (go_simp; done))) hS6 ?_
      simp only [List.setIfInBounds_toArray, List.set_cons_succ, List.set_cons_zero]
      refine takeD (i := 1) (d := 39) (v := .bool true) rfl rfl (by kernel_rfl) (by kernel_rfl) (by kernel_rfl) (fun c a w h => h) (.inl ⟨by first | rfl | kernel_rfl, fun W' h => by have q0 : W'.cell? ⟨X.heap.size, 0, none⟩ = some (.bool true) := (by rw [(hF6 W' h).2.2.1.cell?, ← HL.out]; rfl); go_simp⟩) hS6 ?_
      simp only [List.setIfInBounds_toArray, List.set_cons_succ, List.set_cons_zero]
      refine takeD (i := 2) (d := 40) (v := .bool true) rfl rfl (by kernel_rfl) (by kernel_rfl) (by kernel_rfl) (fun c a w h => h) (yieldsIf_op rfl (fun w => by first | rfl | kernel_rfl | (go_simp; done))) hS6 ?_
      simp only [List.setIfInBounds_toArray, List.set_cons_succ, List.set_cons_zero]
      refine takeD (i := 3) (d := 41) (v := .pointer (some ⟨X.heap.size, 1, none⟩)) rfl rfl (by kernel_rfl) (by kernel_rfl) (by kernel_rfl) (fun c a w h => h) (yieldsIf_op rfl (fun w => by first | rfl | kernel_rfl | (go_simp; done))) hS6 ?_
      simp only [List.setIfInBounds_toArray, List.set_cons_succ, List.set_cons_zero]
      refine takeD (i := 4) (d := 42) (v := .agg CV) rfl rfl (by kernel_rfl) (by kernel_rfl) (by kernel_rfl) (fun c a w h => h) (yieldsIf_load (f := Value.bool) (l := p.set) (aggVarsL _ HP.out) (.tmp 41) rfl X.heap.size 1 rfl (fun W' h => hV16 W' h) HCV.out rfl) hS6 ?_
      simp only [List.setIfInBounds_toArray, List.set_cons_succ, List.set_cons_zero]
      refine takeD (i := 5) (d := 43) (v := .agg C1) rfl rfl (by kernel_rfl) (by kernel_rfl) (by kernel_rfl) (fun c a w h => h) (yieldsIf_load (f := oV) (l := s.cs) (aggSt _) (.tmp 11) rfl (X.heap.size + 2) 0 rfl (fun W' h => (hF6 W' h).2.2.2.2.1.at) HC1.out rfl) hS6 ?_
      simp only [List.setIfInBounds_toArray, List.set_cons_succ, List.set_cons_zero]
      refine takeD (i := 8) (d := 46) (v := .pointer (some ⟨X.heap.size, 1, none⟩)) rfl rfl (by kernel_rfl) (by kernel_rfl) (by kernel_rfl) (fun c a w h => h) (yieldsIf_op rfl (fun w => by first | rfl | kernel_rfl | (go_simp; done))) hS6 ?_
      simp only [List.setIfInBounds_toArray, List.set_cons_succ, List.set_cons_zero]
      refine takeD (i := 9) (d := 47) (v := .agg CV) rfl rfl (by kernel_rfl) (by kernel_rfl) (by kernel_rfl) (fun c a w h => h) (yieldsIf_load (f := Value.bool) (l := p.set) (aggVarsL _ HP.out) (.tmp 46) rfl X.heap.size 1 rfl (fun W' h => hV16 W' h) HCV.out rfl) hS6 ?_
      simp only [List.setIfInBounds_toArray, List.set_cons_succ, List.set_cons_zero]
      refine wpAnyH_ready (rs := [6]) (by kernel_rfl) (by simp) (AllReadyH.cons rfl (fun K' hK => ?_) AllReadyH.nil)
      refine callD (d := 44) (g := 30) (args := #[.agg C1]) rfl rfl (by first | kernel_rfl | (simp [execOp, resolve, invoke, Act.eval]) | go_simp) ?_
      refine (hst.rd _ C1 HC1).mono ?_
      rintro e7 W7 ⟨C7, rfl, HC7, hB7⟩
      replace hS6 := hS6.trans (hB7.mono hS6.size)
      refine ⟨_, rfl, hK.out _ _ hS6 fun _ => ?_⟩
      clear hK hB7
      simp only [List.setIfInBounds_toArray, List.set_cons_succ, List.set_cons_zero]
      refine wpAnyH_ready (rs := [7]) (by kernel_rfl) (by simp) (AllReadyH.cons rfl (fun K' hK => ?_) AllReadyH.nil)
      refine callD (d := 45) (g := 29) (args := #[.agg CV, .agg C7]) rfl rfl (by first | kernel_rfl | (simp [execOp, resolve, invoke, Act.eval]) | go_simp) ?_
      refine (rOr _ p.set (rdV s) HP.out (rdV_length s) CV C7 HCV HC7).mono ?_
      rintro e8 W8 ⟨C8, rfl, HC8, hB8⟩
      replace hS6 := hS6.trans (hB8.mono hS6.size)
      refine ⟨_, rfl, hK.out _ _ hS6 fun _ => ?_⟩
      clear hK hB8
      simp only [List.setIfInBounds_toArray, List.set_cons_succ, List.set_cons_zero]
      refine takeD (i := 10) (d := 48) (v := .bool (orV p.set (rdV s) != p.set)) rfl rfl (by kernel_rfl) (by kernel_rfl) (by kernel_rfl) (fun c a w h => h) (yieldsIf_op rfl (fun w => exec_neq_vars (.tmp 45) (.tmp 47) rfl (orV p.set (rdV s)) p.set (orV_length HP.out (rdV_length s)) HP.out HC8.out HCV.out rfl rfl w)) hS6 ?_
      simp only [List.setIfInBounds_toArray, List.set_cons_succ, List.set_cons_zero]
      refine takeD (i := 11) (d := 49) (v := .bool (orV p.set (rdV s) != p.set)) rfl rfl (by kernel_rfl) (by kernel_rfl) (by kernel_rfl) (fun c a w h => h) (yieldsIf_op rfl (fun w => by first | rfl | kernel_rfl | (go_simp; done))) hS6 ?_
      simp only [List.setIfInBounds_toArray, List.set_cons_succ, List.set_cons_zero]
      refine wpAnyH_done (by kernel_rfl) ?_ _
      have hb8 := (hF6 W8 hS6)
      have cw := hb8.1.cw
      have hV8 := HV6.out.below hS6
      have HU8 := Lib.hid (Upd.of_below (V.E lp) hS6 (Nat.le_refl _))
      have HV8 := Lib.hid hV8
      clear hb8 hS6 hF6 hV16 hV8
      cases hne : (orV p.set (rdV s) != p.set) with
      | false =>
        have hm : markS s i p lf rp = { rp with reach := rp.reach.set i p.live } := by
          unfold markS
          simp only [if_neg hmk0]
          rw [if_neg (by intro h; simp at hne; exact h.2 hne)]
        have HM := Lib.hid hm
        clear hm hne
        go_wp2_with fail
        go_meet
        exact ⟨HU8.out, by rw [HM.out]; exact HV8.out⟩
      | true =>
        have hm : markS s i p lf rp = ({ rp with reach := rp.reach.set i p.live } : Rp).wrong i 170 := by
          unfold markS
          simp only [if_neg hmk0]
          rw [if_pos ⟨HL.out, by simpa using hne⟩]
        have HM := Lib.hid hm
        clear hm hne
        go_wp2_with fail
        refine (rWrong W8 V.rb _ { rp with reach := rp.reach.set i p.live } i 170 HV8.out.rep).mono ?_
        rintro en W9 ⟨rfl, hr9, hu9⟩
        have hV9 : WVar V S W9 lp lf (({ rp with reach := rp.reach.set i p.live } : Rp).wrong i 170) := by
          have h := HV8.out
          refine ⟨hr9, ?_, ?_, ?_⟩
          · have := h.reach.upd hu9 (by show ¬ V.qb = V.rb; exact fun e => hF0.out.ne.1 e.symm)
            unfold Rp.wrong; split <;> exact this
          · have := h.len
            unfold Rp.wrong; split <;> exact this
          · rcases h.left with h1 | ⟨l, b, h1, h2, h3⟩
            · exact .inl h1
            · exact .inr ⟨l, b, h1, h2, h3.upd hu9 (by show ¬ l = V.rb; exact (hL0.out l h1).2.2.1)⟩
        have hU9 := HU8.out.trans hu9 (fun k _ h => .inl h)
        have H9 := Lib.hid (And.intro hU9 hV9)
        clear hr9 hu9 hV9 hU9 cw
        go_wp2_with fail
        go_meet
        exact ⟨H9.out.1, by rw [HM.out]; exact H9.out.2⟩
  case rest =>
    obtain ⟨hU7, hV7⟩ := hcut
    clear e0
    have HFZ : Hid (∀ Z, Upd (V.E lp) wc Z → WFix V S B Z ∧ Upd (V.E lp) X Z ∧ Row Value.bool Z X.heap.size 105 p.cs ∧ Row Value.bool Z (X.heap.size + 1) 105 zPl ∧ Row oV Z (X.heap.size + 2) 45 s.cs ∧ X.heap.size + 3 ≤ Z.heap.size) := Lib.hid fun Z hZ => HF.out Z (hU7.trans hZ (fun k _ h => h))
    have HV7 := Lib.hid hV7
    clear hU7 hV7 HF HV6 hs6
    have e0 : wc.cell? ⟨X.heap.size + 2, 0, none⟩ = some (.int .i64 s.kind) := by rw [(HFZ.out wc (Upd.refl _ _)).2.2.2.2.1.cell?];  rfl
    obtain ⟨hF7, hU7, hR7, hZ7, hs7, hz7⟩ := HFZ.out wc (Upd.refl _ _)
    have HF7 := Lib.hid hF7
    have hsd7 : StD wc s := HSD.out.below hF7.below
    have HSD7 := Lib.hid hsd7
    clear hF7 hU7 hR7 hZ7 hz7 hsd7
    go_wp2_with (first
      | ((with_reducible refine load_agg (f := oV) (l := s.cs) (aggSt _) (.tmp 11) ?_ ?_ (X.heap.size + 2) 0 ?_ hs7.at HC1.out ?_); rfl; rfl; rfl))
    refine (hst.sv wc C1 HSD7.out HC1).mono ?_
    rintro ev Wa ⟨Ca, rfl, HCa, hBa⟩
    rw [hfl]
    clear hs7 e0 k10 k11 k12 k14 k15
    have hUa := Upd.of_below (V.E lp) hBa (Nat.le_refl _)
    have hVa := HV7.out.below hBa
    have hz8 := (HFZ.out Wa hUa).2.2.2.2.2
    have hwc8 : wc.heap.size ≤ Wa.heap.size := hUa.size
    have hN0 : Row Value.bool (Wa.alloc (.cells zVarsC 89)) Wa.heap.size 89 zVars := Row.new _ _ rfl
    have hUa1 := hUa.alloc (.cells zVarsC 89)
    have hVa1 := hVa.below ((Below.refl Wa.heap.size Wa).alloc (Nat.le_refl _) (.cells zVarsC 89))
    have HLv := Lib.hid (svV_length s)
    clear hUa hVa hBa
    go_upto_region 23 with (first
      | ((with_reducible refine store_agg (f := Value.bool) (l := zVars) (l' := svV s) (t := 89) (C := Ca) (aggVarsL _ HLv.out) (.tmp 14) (.tmp 100) ?_ ?_ Wa.heap.size ?_ ?_ ?_ hN0 ?_ bV_one ?_); rfl; rfl; rfl; exact HCa.out; rfl; exact HLv.out; intro Wb hsb hGb hzb))
    have hUb : Upd (V.E lp) wc Wb := hUa1.grown hGb (fun b e => by cases e; exact .inr (by omega))
    have HVB := Lib.hid (hVa1.grow HEn.out hGb (by omega))
    have HFB : Hid (∀ Z, Upd (V.E lp) Wb Z → WFix V S B Z ∧ Upd (V.E lp) X Z ∧ Row Value.bool Z X.heap.size 105 p.cs ∧ Row Value.bool Z (X.heap.size + 1) 105 zPl ∧ Row oV Z (X.heap.size + 2) 45 s.cs ∧ X.heap.size + 3 ≤ Z.heap.size) := Lib.hid fun Z hZ => HFZ.out Z (hUb.trans hZ (fun k _ h => h))
    have HN14 : Hid (∀ Z, Upd (V.E lp) Wb Z → Row Value.bool Z Wa.heap.size 89 (svV s)) := Lib.hid fun Z hZ => hsb.upd hZ (HEn.out _ (by omega))
    clear hUa1 hVa1 hN0 hsb hGb hzb hUb HFZ
    generalize Wa.heap.size = n14 at HN14 hz8 hwc8 ⊢
    obtain ⟨CV, HCV⟩ : ∃ CV, Hid (CV = (p.set.map Value.bool).toArray) := ⟨_, Lib.hid rfl⟩
    obtain ⟨CA, HCA⟩ : ∃ D, Hid (D = ((p.live :: orV p.set (svV s)).map Value.bool).toArray) := ⟨_, Lib.hid rfl⟩
    have HLo := Lib.hid (orV_length HP.out (svV_length s))
    have HLo17 : Hid ((p.live :: orV p.set (svV s)).length = 17) := Lib.hid (by simp [HLo.out])
    go_cut [16] (fun s16 wx => ∃ n16, s16 = .pointer (some ⟨n16, 0, none⟩) ∧ Row Value.bool wx n16 105 (p.live :: orV p.set (svV s)) ∧ Upd (V.E lp) Wb wx ∧ WVar V S wx lp lf (markS s i p lf rp) ∧ X.heap.size ≤ n16)
    case first =>
      refine region_headsT (S := fun Z => Upd (V.E lp) Wb Z) 8 rfl (by kernel_rfl) (Upd.refl _ _).drew fun hS8 => ?_
      refine headsT_takeD (i := 0) (d := 102) (v := .pointer (some ⟨X.heap.size, 0, none⟩)) (by kernel_rfl) rfl rfl (by omega) (by kernel_rfl) (by kernel_rfl) (fun c a w h => h) (yieldsIf_op rfl (fun w => by first | rfl | kernel_rfl | (go_simp; done))) hS8 ?_
      simp only [put_none, List.setIfInBounds_toArray, List.set_cons_succ, List.set_cons_zero]
      refine headsT_takeD (i := 1) (d := 103) (v := .bool p.live) (by kernel_rfl) rfl rfl (by omega) (by kernel_rfl) (by kernel_rfl) (fun c a w h => h) (.inl ⟨by first | rfl | kernel_rfl, fun W' h => by have q0 : W'.cell? ⟨X.heap.size, 0, none⟩ = some (.bool p.live) := (by rw [(HFB.out W' h).2.2.1.cell?]; rfl); go_simp⟩) hS8 ?_
      simp only [put_none, List.setIfInBounds_toArray, List.set_cons_succ, List.set_cons_zero]
      refine headsT_takeD (i := 2) (d := 104) (v := .pointer (some ⟨X.heap.size, 1, none⟩)) (by kernel_rfl) rfl rfl (by omega) (by kernel_rfl) (by kernel_rfl) (fun c a w h => h) (yieldsIf_op rfl (fun w => by first | rfl | kernel_rfl | (go_simp; done))) hS8 ?_
      simp only [put_none, List.setIfInBounds_toArray, List.set_cons_succ, List.set_cons_zero]
      refine headsT_takeD (i := 3) (d := 105) (v := .agg CV) (by kernel_rfl) rfl rfl (by omega) (by kernel_rfl) (by kernel_rfl) (fun c a w h => h) (yieldsIf_load (f := Value.bool) (l := p.set) (aggVarsL _ HP.out) (.tmp 104) rfl X.heap.size 1 rfl (fun W' h i hi => by rw [(HFB.out W' h).2.2.1.cell?, Nat.add_comm 1 i]; rfl) HCV.out rfl) hS8 ?_
      simp only [put_none, List.setIfInBounds_toArray, List.set_cons_succ, List.set_cons_zero]
      refine headsT_takeD (i := 4) (d := 106) (v := .agg Ca) (by kernel_rfl) rfl rfl (by omega) (by kernel_rfl) (by kernel_rfl) (fun c a w h => h) (yieldsIf_load (f := Value.bool) (l := svV s) (aggVarsL _ HLv.out) (.tmp 14) rfl n14 0 rfl (fun W' h => (HN14.out W' h).at) HCa.out rfl) hS8 ?_
      simp only [put_none, List.setIfInBounds_toArray, List.set_cons_succ, List.set_cons_zero]
      have hVd := HVB.out.below (Below.refl Wb.heap.size Wb).drew
      generalize Wb.drew = Wd at hS8 hVd ⊢
      refine headsT_ready (rs := [5, 7]) (by kernel_rfl) (by simp) (AllReadyT.cons (by omega) rfl (fun K' hK => ?_) (AllReadyT.cons (by omega) rfl (fun K' hK => ?_) AllReadyT.nil))
      · refine callD (d := 107) (g := 29) (args := #[.agg CV, .agg Ca]) rfl rfl (by first | kernel_rfl | (simp [execOp, resolve, invoke, Act.eval]) | go_simp) ?_
        refine (rOr _ p.set (svV s) HP.out HLv.out CV Ca HCV HCa).mono ?_
        rintro ev Wo ⟨Co, rfl, HCo, hBo⟩
        have hS9 := hS8.below hBo hS8.size
        have hVo := hVd.below hBo
        refine ⟨_, rfl, hK.out _ _ hS9 fun _ => ?_⟩
        clear hK hS8 hVd
        have hS8 := hS9
        have hVd := hVo
        clear hS9 hVo hBo
        simp only [List.setIfInBounds_toArray, List.set_cons_succ, List.set_cons_zero]
        refine headsT_takeD (i := 6) (d := 108) (v := .agg CA) (by kernel_rfl) rfl rfl (by omega) (by kernel_rfl) (by kernel_rfl) (fun c a w h => h) (yieldsIf_op rfl (fun w => by rw [HCA.out]; exact run_build_place (.tmp 103) (.tmp 107) rfl p.live (orV p.set (svV s)) HLo.out rfl HCo.out rfl w)) hS8 ?_
        simp only [put_none, List.setIfInBounds_toArray, List.set_cons_succ, List.set_cons_zero]
        refine headsT_ready (rs := [7]) (by kernel_rfl) (by simp) (AllReadyT.cons (by omega) rfl (fun K' hK => ?_) AllReadyT.nil)
        refine allocD (d := 16) (ob := .cells zPlC 105) rfl rfl (by first | rfl | kernel_rfl) ?_
        have hNn : Row Value.bool (Wo.alloc (.cells zPlC 105)) Wo.heap.size 105 zPl := Row.new _ _ rfl
        have hS9 := hS8.alloc (.cells zPlC 105)
        have hVo := hVd.below ((Below.refl Wo.heap.size Wo).alloc (Nat.le_refl _) (.cells zPlC 105))
        refine hK.out _ _ hS9 fun _ => ?_
        have hzn : X.heap.size + 3 ≤ Wo.heap.size := (HFB.out _ hS8).2.2.2.2.2
        have hwo0 := hS8.size
        clear hK hS8 hVd
        have hS8 := hS9
        have hVd := hVo
        clear hS9 hVo
        simp only [List.setIfInBounds_toArray, List.set_cons_succ, List.set_cons_zero]
        have hwo : Wb.heap.size ≤ Wo.heap.size := hwo0
        refine headsT_tail (by kernel_rfl) ?_
        simp only [List.drop]
        generalize Wo.heap.size = n16 at hNn hzn hwo hwo0 ⊢
        go_wp2_with (first
          | ((with_reducible refine store_agg (f := Value.bool) (l := zPl) (l' := p.live :: orV p.set (svV s)) (t := 105) (C := CA) (aggPl _ HLo17.out) (.tmp 16) (.tmp 108) ?_ ?_ n16 ?_ ?_ ?_ hNn ?_ bV_one ?_); rfl; rfl; rfl; exact HCA.out; rfl; exact HLo17.out; intro We hse hGe hze))
        go_meet
        exact ⟨n16, rfl, hse, hS8.grown hGe (fun b e => by cases e; exact .inr hwo), hVd.grow HEn.out hGe (by omega), by omega⟩
      · refine allocD (d := 16) (ob := .cells zPlC 105) rfl rfl (by first | rfl | kernel_rfl) ?_
        have hNn : Row Value.bool (Wd.alloc (.cells zPlC 105)) Wd.heap.size 105 zPl := Row.new _ _ rfl
        have hS9 := hS8.alloc (.cells zPlC 105)
        have hVo := hVd.below ((Below.refl Wd.heap.size Wd).alloc (Nat.le_refl _) (.cells zPlC 105))
        refine hK.out _ _ hS9 fun _ => ?_
        have hzn : X.heap.size + 3 ≤ Wd.heap.size := (HFB.out _ hS8).2.2.2.2.2
        have hwo0 := hS8.size
        clear hK hS8 hVd
        have hS8 := hS9
        have hVd := hVo
        clear hS9 hVo
        simp only [List.setIfInBounds_toArray, List.set_cons_succ, List.set_cons_zero]
        have hwo : Wb.heap.size ≤ Wd.heap.size := hwo0
        refine headsT_ready (rs := [5]) (by kernel_rfl) (by simp) (AllReadyT.cons (by omega) rfl (fun K' hK => ?_) AllReadyT.nil)
        refine callD (d := 107) (g := 29) (args := #[.agg CV, .agg Ca]) rfl rfl (by first | kernel_rfl | (simp [execOp, resolve, invoke, Act.eval]) | go_simp) ?_
        refine (rOr _ p.set (svV s) HP.out HLv.out CV Ca HCV HCa).mono ?_
        rintro ev Wo ⟨Co, rfl, HCo, hBo⟩
        have hS9 := hS8.below hBo hS8.size
        have hVo := hVd.below hBo
        replace hNn := hNn.below hBo hNn.lt
        refine ⟨_, rfl, hK.out _ _ hS9 fun _ => ?_⟩
        clear hK hS8 hVd
        have hS8 := hS9
        have hVd := hVo
        clear hS9 hVo hBo
        simp only [List.setIfInBounds_toArray, List.set_cons_succ, List.set_cons_zero]
        refine headsT_takeD (i := 6) (d := 108) (v := .agg CA) (by kernel_rfl) rfl rfl (by omega) (by kernel_rfl) (by kernel_rfl) (fun c a w h => h) (yieldsIf_op rfl (fun w => by rw [HCA.out]; exact run_build_place (.tmp 103) (.tmp 107) rfl p.live (orV p.set (svV s)) HLo.out rfl HCo.out rfl w)) hS8 ?_
        simp only [put_none, List.setIfInBounds_toArray, List.set_cons_succ, List.set_cons_zero]
        refine headsT_tail (by kernel_rfl) ?_
        simp only [List.drop]
        generalize Wd.heap.size = n16 at hNn hzn hwo hwo0 ⊢
        go_wp2_with (first
          | ((with_reducible refine store_agg (f := Value.bool) (l := zPl) (l' := p.live :: orV p.set (svV s)) (t := 105) (C := CA) (aggPl _ HLo17.out) (.tmp 16) (.tmp 108) ?_ ?_ n16 ?_ ?_ ?_ hNn ?_ bV_one ?_); rfl; rfl; rfl; exact HCA.out; rfl; exact HLo17.out; intro We hse hGe hze))
        go_meet
        exact ⟨n16, rfl, hse, hS8.grown hGe (fun b e => by cases e; exact .inr hwo), hVd.grow HEn.out hGe (by omega), by omega⟩
    case rest =>
      obtain ⟨n16, rfl, hs16, hU16, hV16, hz16⟩ := hcut
      have HFB2 : Hid (∀ Z, Upd (V.E lp) wc Z → WFix V S B Z ∧ Upd (V.E lp) X Z ∧ Row Value.bool Z X.heap.size 105 p.cs ∧ Row Value.bool Z (X.heap.size + 1) 105 zPl ∧ Row oV Z (X.heap.size + 2) 45 s.cs ∧ X.heap.size + 3 ≤ Z.heap.size) := Lib.hid fun Z hZ => HFB.out Z (hU16.trans hZ (fun k _ h => h))
      have HVB2 := Lib.hid hV16
      have HN12 : Hid (∀ Z, Upd (V.E lp) wc Z → Row Value.bool Z n16 105 (p.live :: orV p.set (svV s))) := Lib.hid fun Z hZ => hs16.upd hZ (HEn.out _ hz16)
      clear HFB HVB HN14 hU16 hV16 hs16
      have HFB := HFB2
      have HVB := HVB2
      clear HFB2 HVB2
      have hst1 : stp S i t e p lf rp = (⟨p.live, orV p.set (svV s)⟩, (wk S e ⟨false, p.set⟩ lf (markS s i p lf rp)).2) := by
        unfold stp
        simp only [at'_of hs]
        rw [if_neg h10, if_neg h11, if_neg h12, if_neg (by rintro (h | h); exact h14 h; exact h15 h), if_neg (by rw [hfl]; decide)]
      have HST := Lib.hid hst1
      obtain ⟨hF7, hU7, hR7, hZ7, hs7, hz7⟩ := HFB.out wc (Upd.refl _ _)
      have b0 := hF7.cb
      have e32 : wc.cell? ⟨X.heap.size + 2, 32, none⟩ = some (.int .i64 s.e) := by rw [hs7.cell?]; rfl
      have h16 : At Value.bool wc X.heap.size 1 p.set := fun i hi => by rw [hR7.cell?, Nat.add_comm 1 i]; rfl
      obtain ⟨CD, HCD⟩ : ∃ D, Hid (D = ((false :: p.set).map Value.bool).toArray) := ⟨_, Lib.hid rfl⟩
      have HF9 := Lib.hid hF7
      clear hF7 hU7 hR7 hZ7 hs7 hz7 hst1
      go_wp2_with (first
        | ((with_reducible refine load_agg (f := Value.bool) (l := p.set) (aggVarsL _ HP.out) (.tmp 121) ?_ ?_ X.heap.size 1 ?_ h16 HCV.out ?_); rfl; rfl; rfl)
        | ((with_reducible refine build_place (.const (.bool false)) (.tmp 122) ?_ ?_ false p.set HP.out ?_ HCV.out ?_ HCD.out ?_); rfl; rfl; rfl; rfl))
      refine (IHe wc ⟨false, p.set⟩ HP.out lp lf _ CD HCD HF9.out hL0.out HVB.out).mono ?_
      rintro ev We ⟨Ce, rfl, HCe, HLe, hUe, hVe⟩
      obtain ⟨hF7, hU7, hR7, hZ7, hs7, hz7⟩ := HFB.out We hUe
      have hN := HN12.out We hUe
      have HUV := Lib.hid (And.intro hU7 hVe)
      clear b0 e32 h16 hF7 hU7 hR7 hs7 hUe hVe HCe HLe
      go_wp2_with (first
        | ((with_reducible refine load_agg (f := Value.bool) (l := p.live :: orV p.set (svV s)) (aggPl _ HLo17.out) (.tmp 16) ?_ ?_ n16 0 ?_ hN.at HCA.out ?_); rfl; rfl; rfl)
        | ((with_reducible refine store_agg (f := Value.bool) (l := zPl) (l' := p.live :: orV p.set (svV s)) (t := 105) (C := CA) (aggPl _ HLo17.out) (.tmp 10) (.tmp 126) ?_ ?_ (X.heap.size + 1) ?_ ?_ ?_ hZ7 ?_ bV_one ?_); rfl; rfl; rfl; exact HCA.out; rfl; exact HLo17.out; intro Wr hsr hGr hzr))
      refine bodyPost_ret (results_agg (f := Value.bool) (l := p.live :: orV p.set (svV s)) rfl _ (aggPl _ HLo17.out) (X.heap.size + 1) 0 rfl hsr.at) rfl ?_
      rw [HST.out]
      exact ⟨_, rfl, Lib.hid rfl, HLo, HUV.out.1.grown hGr (fun b e => by cases e; exact .inr (by omega)), HUV.out.2.grow HEn.out hGr (by omega)⟩
end Go.Proofs.YtllomcmhkocdfaaGreatDoor

/- The walk through a statement: breaks. -/
namespace Go.Proofs.YtllomcmhkocdfaaGreatDoor
open Go.RowKit Mem
set_option maxRecDepth 100000

set_option maxHeartbeats 16000000 in
theorem rSt_Brk {S : List St} {B : List (List Int)} (V : WEnv) (hS : S.length ≤ 64) (i : Nat) (s : St) (hs : S[i]? = some s) (hst : StWalk s) (t e : Blk) (hk : s.kind = 12) (IHt : BlkC V S B t s.t) (IHe : BlkC V S B e s.e) : StC V S B i t e := by
  intro X p hp lp lf rp C HC hF hL hV
  cases lp with
  | none =>
    have hlf : lf = none := by
      rcases hV.left with ⟨_, h⟩ | ⟨l, b, h, _⟩
      · exact h
      · cases h
    subst hlf
    obtain ⟨sb, so, hsp, hA0, hsbl, hin⟩ := hF.pg.stmt hs
    have hil : i < S.length := (List.getElem?_eq_some_iff.1 hs).1
    have hi1 : (i : Int) < (S.length : Int) := by omega
    have hE := hV.lts
    have hF0 := Lib.hid hF
    have hV0 := Lib.hid hV
    have hL0 := Lib.hid hL
    have HP := Lib.hid hp
    have HSD := Lib.hid (hF.pg.sd s (List.mem_of_getElem? hs))
    have c0 := hF.box.c0
    rw [hsp, hF.pg.ns] at c0
    have hAX : At oV X sb (so + i * 33) s.cs := hA0.below hF.below hsbl
    have hsX : sb < X.heap.size := Nat.lt_of_lt_of_le hsbl hF.below.size
    have hpbX := hF.top.1
    have hrbX := hV.rep.lt
    have hqbX := hV.reach.lt
    have r0 : X.cell? ⟨V.rb, 0, none⟩ = some (.slice (some ⟨V.qb, 0, none⟩) S.length S.length) := by rw [hV.rep.cell?]; rfl
    have hq0 : ∃ b, X.cell? ⟨V.qb, i, none⟩ = some (.bool b) := ⟨_, by rw [hV.reach.cell?, List.getElem?_eq_getElem (by rw [hV.len]; exact hil)]; rfl⟩
    obtain ⟨bq, q0⟩ := hq0
    have qf := hV.reach.frozen i
    clear hF hV hL hp hA0 hsp hin hsbl
    have HC0 := Lib.hid (And.intro c0 (And.intro r0 (And.intro q0 qf)))
    clear c0 r0 q0 qf
    rw [show lpV none = .pointer none from rfl]
    go_enter Tryz.func47, Tryz.ntmps47
    go_upto_region 1 with (fail)
    obtain ⟨W, hW, hR, hZ, hB, hsW⟩ : ∃ W, (X.alloc (.cells C 105)).alloc (.cells zPlC 105) = W ∧ Row Value.bool W X.heap.size 105 p.cs ∧ Row Value.bool W (X.heap.size + 1) 105 zPl ∧ Below X.heap.size X W ∧ W.heap.size = X.heap.size + 2 :=
      ⟨_, rfl, Row.alloc (Row.new X _ (by rw [HC.out])) _, heap_new' _ _ _ (by simp), ((Below.refl _ _).alloc (Nat.le_refl _) _).alloc (by simp) _, by simp⟩
    rw [hW]
    clear hW
    have c0 := (hB.cell (p := ⟨V.pb, 0, none⟩) hpbX).trans HC0.out.1
    have hA1 := hAX.below hB hsX
    obtain ⟨C1, HC1⟩ : ∃ C1, Hid (C1 = (s.cs.map oV).toArray) := ⟨_, Lib.hid rfl⟩
    have hZ1 : Row oV (W.alloc (.cells zStmtC 45)) (X.heap.size + 2) 45 (stC 0 0 ⟨#[]⟩ 0 0) := by rw [← hsW]; exact Row.new _ _ rfl
    go_upto_region 2 with (first
      | ((with_reducible refine load_agg (f := oV) (l := s.cs) (aggSt _) (.tmp 20) ?_ ?_ sb (so + i * 33) ?_ hA1 HC1.out ?_); rfl; rfl; rfl)
      | ((with_reducible refine store_agg (f := oV) (l := stC 0 0 ⟨#[]⟩ 0 0) (l' := s.cs) (t := 45) (C := C1) (aggSt _) (.tmp 11) (.tmp 21) ?_ ?_ (X.heap.size + 2) ?_ ?_ ?_ hZ1 ?_ oV_one ?_); rfl; rfl; rfl; exact HC1.out; rfl; rfl; intro W5 hs5 hG5 hz5))
    have hB5 : Below X.heap.size X W5 := (hB.alloc hB.size (.cells zStmtC 45)).grown hG5 (by simp; omega) (fun k e => by cases e; omega)
    have hR5 : Row Value.bool W5 X.heap.size 105 p.cs := (hR.alloc _).grown hG5 (by simp)
    have hZ5 : Row Value.bool W5 (X.heap.size + 1) 105 zPl := (hZ.alloc _).grown hG5 (by simp)
    have hs5' : X.heap.size + 3 ≤ W5.heap.size := Nat.lt_of_lt_of_le (by omega) hs5.lt
    clear c0 hA1 hZ1 hR hZ hB hG5 hz5 hsW hAX
    have r0 := (hB5.cell (p := ⟨V.rb, 0, none⟩) hrbX).trans HC0.out.2.1
    have q0 := (hB5.cell (p := ⟨V.qb, i, none⟩) hqbX).trans HC0.out.2.2.1
    have qf := (hB5.frozen (p := ⟨V.qb, i, none⟩) hqbX).trans HC0.out.2.2.2
    have d0 : W5.cell? ⟨X.heap.size, 0, none⟩ = some (.bool p.live) := by rw [hR5.cell?]; rfl
    have HX := Lib.hid (And.intro hB5 (And.intro hR5 (And.intro hZ5 hs5)))
    clear hB5 hR5 hZ5 hs5
    go_upto_region 3 with (fail)
    obtain ⟨W6, hW6⟩ : ∃ W6, W5.setCell ⟨V.qb, i, none⟩ (.bool p.live) = W6 := ⟨_, rfl⟩
    have hs6 : X.heap.size + 3 ≤ W6.heap.size := by rw [← hW6]; simpa using hs5'
    have HV6 : Hid (WVar V S W6 none none { rp with reach := rp.reach.set i p.live }) := Lib.hid (by rw [← hW6]; exact (hV0.out.below HX.out.1).setReach (hF0.out.below' HX.out.1) hL0.out i p.live)
    have hU6 : Upd (V.E none) X W6 := by rw [← hW6]; exact (Upd.of_below _ HX.out.1 (Nat.le_refl _)).set (.inl (.inr (.inl rfl))) _ _
    have HF : Hid (∀ Z, Upd (V.E none) W6 Z → WFix V S B Z ∧ Upd (V.E none) X Z ∧ Row Value.bool Z X.heap.size 105 p.cs ∧ Row Value.bool Z (X.heap.size + 1) 105 zPl ∧ Row oV Z (X.heap.size + 2) 45 s.cs ∧ X.heap.size + 3 ≤ Z.heap.size) := Lib.hid fun Z hZ => by
      obtain ⟨h1, h2, h3, h4⟩ := HX.out
      have hU : Upd (V.E none) X Z := hU6.trans hZ (fun k _ h => h)
      have n : ∀ k, X.heap.size ≤ k → ¬ V.E none k := fun k hk h => absurd (hE k h) (by omega)
      have k2 : Row Value.bool W6 X.heap.size 105 p.cs := by rw [← hW6]; exact h2.set_other (by omega) _ _
      have k3 : Row Value.bool W6 (X.heap.size + 1) 105 zPl := by rw [← hW6]; exact h3.set_other (by omega) _ _
      have k4 : Row oV W6 (X.heap.size + 2) 45 s.cs := by rw [← hW6]; exact h4.set_other (by omega) _ _
      exact ⟨hF0.out.upd hU hL0.out, hU, k2.upd hZ (n _ (Nat.le_refl _)), k3.upd hZ (n _ (by omega)), k4.upd hZ (n _ (by omega)), Nat.le_trans hs6 hZ.size⟩
    rw [hW6]
    clear hW6 r0 q0 qf d0 hs5' HX hU6 HC0
    have hEn : ∀ k, X.heap.size ≤ k → ¬ V.E none k := fun k hk h => absurd (hE k h) (by omega)
    have HEn := Lib.hid hEn
    clear hEn hE
    have e0 : W6.cell? ⟨X.heap.size + 2, 0, none⟩ = some (.int .i64 s.kind) := by rw [(HF.out W6 (Upd.refl _ _)).2.2.2.2.1.cell?]; rfl
    rw [hk] at e0
    have hm : markS s i p none rp = ({ rp with reach := rp.reach.set i p.live } : Rp).wrong i 171 := by unfold markS; simp [hk]
    have hst1 : stp S i t e p none rp = (⟨false, zV16⟩, none, ({ rp with reach := rp.reach.set i p.live } : Rp).wrong i 171) := by unfold stp; simp only [at'_of hs, hk, hm]; cases p.live <;> rfl
    have HST := Lib.hid hst1
    have cw := (HF.out W6 (Upd.refl _ _)).1.cw
    clear hm hst1
    go_wp2_with fail
    refine (rWrong W6 V.rb _ { rp with reach := rp.reach.set i p.live } i 171 HV6.out.rep).mono ?_
    rintro en W9 ⟨rfl, hr9, hu9⟩
    have hV9 : WVar V S W9 none none (({ rp with reach := rp.reach.set i p.live } : Rp).wrong i 171) := by
      have h := HV6.out
      refine ⟨hr9, ?_, ?_, .inl ⟨rfl, rfl⟩⟩
      · have := h.reach.upd hu9 (by show ¬ V.qb = V.rb; exact fun e => hF0.out.ne.1 e.symm)
        unfold Rp.wrong; split <;> exact this
      · have := h.len
        unfold Rp.wrong; split <;> exact this
    have hU9 : Upd (V.E none) W6 W9 := (Upd.refl _ _).trans hu9 (fun k _ h => .inl h)
    obtain ⟨hF7, hU7, hR7, hZ7, hs7, hz7⟩ := HF.out W9 hU9
    have HU7 := Lib.hid hU7
    have HV7 := Lib.hid hV9
    clear e0 cw
    have e0 : W9.cell? ⟨X.heap.size + 2, 0, none⟩ = some (.int .i64 12) := by rw [hs7.cell?]; rw [show s.cs[0]? = some (oi s.kind) from rfl, hk]; rfl
    clear hF7 hU7 hR7 hs7 hr9 hu9 hV9 hU9
    go_wp2_with (first
      | ((with_reducible refine store_agg (f := Value.bool) (l := zPl) (l' := zPl) (t := 105) (C := zPlC) (aggPl _ rfl) (.tmp 10) (.tmp 92) ?_ ?_ (X.heap.size + 1) ?_ ?_ ?_ hZ7 ?_ bV_one ?_); rfl; rfl; rfl; rfl; rfl; rfl; intro Wa hsa hGa hza))
    refine bodyPost_ret (results_agg (f := Value.bool) (l := zPl) rfl _ (aggPl _ rfl) (X.heap.size + 1) 0 rfl hsa.at) rfl ?_
    rw [HST.out]
    exact ⟨_, rfl, Lib.hid rfl, Lib.hid rfl, HU7.out.grown hGa (fun b e => by cases e; exact .inr (by omega)), HV7.out.grow HEn.out hGa (by omega)⟩
  | some l =>
    have hlf : ∃ b, lf = some b := by
      rcases hV.left with ⟨h, _⟩ | ⟨l', b, h, h2, _⟩
      · cases h
      · exact ⟨b, h2⟩
    obtain ⟨b, rfl⟩ := hlf
    obtain ⟨sb, so, hsp, hA0, hsbl, hin⟩ := hF.pg.stmt hs
    have hil : i < S.length := (List.getElem?_eq_some_iff.1 hs).1
    have hi1 : (i : Int) < (S.length : Int) := by omega
    have hE := hV.lts
    have hF0 := Lib.hid hF
    have hV0 := Lib.hid hV
    have hL0 := Lib.hid hL
    have HP := Lib.hid hp
    have HSD := Lib.hid (hF.pg.sd s (List.mem_of_getElem? hs))
    have c0 := hF.box.c0
    rw [hsp, hF.pg.ns] at c0
    have hAX : At oV X sb (so + i * 33) s.cs := hA0.below hF.below hsbl
    have hsX : sb < X.heap.size := Nat.lt_of_lt_of_le hsbl hF.below.size
    have hpbX := hF.top.1
    have hrbX := hV.rep.lt
    have hqbX := hV.reach.lt
    have r0 : X.cell? ⟨V.rb, 0, none⟩ = some (.slice (some ⟨V.qb, 0, none⟩) S.length S.length) := by rw [hV.rep.cell?]; rfl
    have hq0 : ∃ b, X.cell? ⟨V.qb, i, none⟩ = some (.bool b) := ⟨_, by rw [hV.reach.cell?, List.getElem?_eq_getElem (by rw [hV.len]; exact hil)]; rfl⟩
    obtain ⟨bq, q0⟩ := hq0
    have qf := hV.reach.frozen i
    clear hF hV hL hp hA0 hsp hin hsbl
    have HC0 := Lib.hid (And.intro c0 (And.intro r0 (And.intro q0 qf)))
    clear c0 r0 q0 qf
    rw [show lpV (some l) = .pointer (some ⟨l, 0, none⟩) from rfl]
    go_enter Tryz.func47, Tryz.ntmps47
    go_upto_region 1 with (fail)
    obtain ⟨W, hW, hR, hZ, hB, hsW⟩ : ∃ W, (X.alloc (.cells C 105)).alloc (.cells zPlC 105) = W ∧ Row Value.bool W X.heap.size 105 p.cs ∧ Row Value.bool W (X.heap.size + 1) 105 zPl ∧ Below X.heap.size X W ∧ W.heap.size = X.heap.size + 2 :=
      ⟨_, rfl, Row.alloc (Row.new X _ (by rw [HC.out])) _, heap_new' _ _ _ (by simp), ((Below.refl _ _).alloc (Nat.le_refl _) _).alloc (by simp) _, by simp⟩
    rw [hW]
    clear hW
    have c0 := (hB.cell (p := ⟨V.pb, 0, none⟩) hpbX).trans HC0.out.1
    have hA1 := hAX.below hB hsX
    obtain ⟨C1, HC1⟩ : ∃ C1, Hid (C1 = (s.cs.map oV).toArray) := ⟨_, Lib.hid rfl⟩
    have hZ1 : Row oV (W.alloc (.cells zStmtC 45)) (X.heap.size + 2) 45 (stC 0 0 ⟨#[]⟩ 0 0) := by rw [← hsW]; exact Row.new _ _ rfl
    go_upto_region 2 with (first
      | ((with_reducible refine load_agg (f := oV) (l := s.cs) (aggSt _) (.tmp 20) ?_ ?_ sb (so + i * 33) ?_ hA1 HC1.out ?_); rfl; rfl; rfl)
      | ((with_reducible refine store_agg (f := oV) (l := stC 0 0 ⟨#[]⟩ 0 0) (l' := s.cs) (t := 45) (C := C1) (aggSt _) (.tmp 11) (.tmp 21) ?_ ?_ (X.heap.size + 2) ?_ ?_ ?_ hZ1 ?_ oV_one ?_); rfl; rfl; rfl; exact HC1.out; rfl; rfl; intro W5 hs5 hG5 hz5))
    have hB5 : Below X.heap.size X W5 := (hB.alloc hB.size (.cells zStmtC 45)).grown hG5 (by simp; omega) (fun k e => by cases e; omega)
    have hR5 : Row Value.bool W5 X.heap.size 105 p.cs := (hR.alloc _).grown hG5 (by simp)
    have hZ5 : Row Value.bool W5 (X.heap.size + 1) 105 zPl := (hZ.alloc _).grown hG5 (by simp)
    have hs5' : X.heap.size + 3 ≤ W5.heap.size := Nat.lt_of_lt_of_le (by omega) hs5.lt
    clear c0 hA1 hZ1 hR hZ hB hG5 hz5 hsW hAX
    have r0 := (hB5.cell (p := ⟨V.rb, 0, none⟩) hrbX).trans HC0.out.2.1
    have q0 := (hB5.cell (p := ⟨V.qb, i, none⟩) hqbX).trans HC0.out.2.2.1
    have qf := (hB5.frozen (p := ⟨V.qb, i, none⟩) hqbX).trans HC0.out.2.2.2
    have d0 : W5.cell? ⟨X.heap.size, 0, none⟩ = some (.bool p.live) := by rw [hR5.cell?]; rfl
    have HX := Lib.hid (And.intro hB5 (And.intro hR5 (And.intro hZ5 hs5)))
    clear hB5 hR5 hZ5 hs5
    go_upto_region 3 with (fail)
    obtain ⟨W6, hW6⟩ : ∃ W6, W5.setCell ⟨V.qb, i, none⟩ (.bool p.live) = W6 := ⟨_, rfl⟩
    have hs6 : X.heap.size + 3 ≤ W6.heap.size := by rw [← hW6]; simpa using hs5'
    have HV6 : Hid (WVar V S W6 (some l) (some b) { rp with reach := rp.reach.set i p.live }) := Lib.hid (by rw [← hW6]; exact (hV0.out.below HX.out.1).setReach (hF0.out.below' HX.out.1) hL0.out i p.live)
    have hU6 : Upd (V.E (some l)) X W6 := by rw [← hW6]; exact (Upd.of_below _ HX.out.1 (Nat.le_refl _)).set (.inl (.inr (.inl rfl))) _ _
    have HF : Hid (∀ Z, Upd (V.E (some l)) W6 Z → WFix V S B Z ∧ Upd (V.E (some l)) X Z ∧ Row Value.bool Z X.heap.size 105 p.cs ∧ Row Value.bool Z (X.heap.size + 1) 105 zPl ∧ Row oV Z (X.heap.size + 2) 45 s.cs ∧ X.heap.size + 3 ≤ Z.heap.size) := Lib.hid fun Z hZ => by
      obtain ⟨h1, h2, h3, h4⟩ := HX.out
      have hU : Upd (V.E (some l)) X Z := hU6.trans hZ (fun k _ h => h)
      have n : ∀ k, X.heap.size ≤ k → ¬ V.E (some l) k := fun k hk h => absurd (hE k h) (by omega)
      have k2 : Row Value.bool W6 X.heap.size 105 p.cs := by rw [← hW6]; exact h2.set_other (by omega) _ _
      have k3 : Row Value.bool W6 (X.heap.size + 1) 105 zPl := by rw [← hW6]; exact h3.set_other (by omega) _ _
      have k4 : Row oV W6 (X.heap.size + 2) 45 s.cs := by rw [← hW6]; exact h4.set_other (by omega) _ _
      exact ⟨hF0.out.upd hU hL0.out, hU, k2.upd hZ (n _ (Nat.le_refl _)), k3.upd hZ (n _ (by omega)), k4.upd hZ (n _ (by omega)), Nat.le_trans hs6 hZ.size⟩
    rw [hW6]
    clear hW6 r0 q0 qf d0 hs5' HX hU6 HC0
    have hEn : ∀ k, X.heap.size ≤ k → ¬ V.E (some l) k := fun k hk h => absurd (hE k h) (by omega)
    have HEn := Lib.hid hEn
    clear hEn hE
    have e0 : W6.cell? ⟨X.heap.size + 2, 0, none⟩ = some (.int .i64 s.kind) := by rw [(HF.out W6 (Upd.refl _ _)).2.2.2.2.1.cell?]; rfl
    rw [hk] at e0
    have hmk0 : ¬ (s.kind = 12 ∧ some b = none) := fun h => by exact absurd h.2 (by simp)
    go_upto_if 34 with (fail)
    go_cut [52] (fun _ wx => Upd (V.E (some l)) W6 wx ∧ WVar V S wx (some l) (some b) (markS s i p (some b) rp))
    case first =>
      clear e0
      have hF6 : ∀ Z, Below W6.heap.size W6 Z → WFix V S B Z ∧ Upd (V.E (some l)) X Z ∧ Row Value.bool Z X.heap.size 105 p.cs ∧ Row Value.bool Z (X.heap.size + 1) 105 zPl ∧ Row oV Z (X.heap.size + 2) 45 s.cs ∧ X.heap.size + 3 ≤ Z.heap.size := fun Z hZ => HF.out Z (Upd.of_below _ hZ (Nat.le_refl _))
      obtain ⟨CV, HCV⟩ : ∃ CV, Hid (CV = (p.set.map Value.bool).toArray) := ⟨_, Lib.hid rfl⟩
      have hV16 : ∀ Z, Below W6.heap.size W6 Z → At Value.bool Z X.heap.size 1 p.set := fun Z hZ i hi => by rw [(hF6 Z hZ).2.2.1.cell?, Nat.add_comm 1 i]; rfl
      cases hlv : p.live with
      | false =>
        have hm : markS s i p (some b) rp = { rp with reach := rp.reach.set i p.live } := by
          unfold markS
          simp only [if_neg hmk0]
          rw [if_neg (by rw [hlv]; intro h; exact absurd h.1 (by decide))]
        rw [hlv] at hm
        have HM := Lib.hid hm
        have HL := Lib.hid hlv
        clear hm hlv
        go_wp2_with fail
        refine wp_region_held_drew (S := fun Z => Below W6.heap.size W6 Z) rfl (Below.refl _ _).drew fun hS6 => ?_
        refine takeD (i := 0) (d := 38) (v := .pointer (some ⟨X.heap.size, 0, none⟩)) rfl rfl (by kernel_rfl) (by kernel_rfl) (by kernel_rfl) (fun c a w h => h) (yieldsIf_op rfl (fun w => by first | rfl | kernel_rfl | (go_simp; done))) hS6 ?_
        simp only [List.setIfInBounds_toArray, List.set_cons_succ, List.set_cons_zero]
        refine takeD (i := 1) (d := 39) (v := .bool false) rfl rfl (by kernel_rfl) (by kernel_rfl) (by kernel_rfl) (fun c a w h => h) (.inl ⟨by first | rfl | kernel_rfl, fun W' h => by have q0 : W'.cell? ⟨X.heap.size, 0, none⟩ = some (.bool false) := (by rw [(hF6 W' h).2.2.1.cell?, ← HL.out]; rfl); go_simp⟩) hS6 ?_
        simp only [List.setIfInBounds_toArray, List.set_cons_succ, List.set_cons_zero]
        refine takeD (i := 2) (d := 40) (v := .bool false) rfl rfl (by kernel_rfl) (by kernel_rfl) (by kernel_rfl) (fun c a w h => h) (yieldsIf_op rfl (fun w => by first | rfl | kernel_rfl | (go_simp; done))) hS6 ?_
        simp only [List.setIfInBounds_toArray, List.set_cons_succ, List.set_cons_zero]
        refine takeD (i := 3) (d := 41) (v := undef) rfl rfl (by kernel_rfl) (by kernel_rfl) (by kernel_rfl) (fun c a w h => h) (yieldsIf_skip (by first | rfl | kernel_rfl)) hS6 ?_
        simp only [List.setIfInBounds_toArray, List.set_cons_succ, List.set_cons_zero]
        refine takeD (i := 4) (d := 42) (v := undef) rfl rfl (by kernel_rfl) (by kernel_rfl) (by kernel_rfl) (fun c a w h => h) (yieldsIf_skip (by first | rfl | kernel_rfl)) hS6 ?_
        simp only [List.setIfInBounds_toArray, List.set_cons_succ, List.set_cons_zero]
        refine takeD (i := 5) (d := 43) (v := undef) rfl rfl (by kernel_rfl) (by kernel_rfl) (by kernel_rfl) (fun c a w h => h) (yieldsIf_skip (by first | rfl | kernel_rfl)) hS6 ?_
        simp only [List.setIfInBounds_toArray, List.set_cons_succ, List.set_cons_zero]
        refine takeD (i := 6) (d := 44) (v := undef) rfl rfl (by kernel_rfl) (by kernel_rfl) (by kernel_rfl) (fun c a w h => h) (yieldsIf_skip (by first | rfl | kernel_rfl)) hS6 ?_
        simp only [List.setIfInBounds_toArray, List.set_cons_succ, List.set_cons_zero]
        refine takeD (i := 7) (d := 45) (v := undef) rfl rfl (by kernel_rfl) (by kernel_rfl) (by kernel_rfl) (fun c a w h => h) (yieldsIf_skip (by first | rfl | kernel_rfl)) hS6 ?_
        simp only [List.setIfInBounds_toArray, List.set_cons_succ, List.set_cons_zero]
        refine takeD (i := 8) (d := 46) (v := undef) rfl rfl (by kernel_rfl) (by kernel_rfl) (by kernel_rfl) (fun c a w h => h) (yieldsIf_skip (by first | rfl | kernel_rfl)) hS6 ?_
        simp only [List.setIfInBounds_toArray, List.set_cons_succ, List.set_cons_zero]
        refine takeD (i := 9) (d := 47) (v := undef) rfl rfl (by kernel_rfl) (by kernel_rfl) (by kernel_rfl) (fun c a w h => h) (yieldsIf_skip (by first | rfl | kernel_rfl)) hS6 ?_
        simp only [List.setIfInBounds_toArray, List.set_cons_succ, List.set_cons_zero]
        refine takeD (i := 10) (d := 48) (v := undef) rfl rfl (by kernel_rfl) (by kernel_rfl) (by kernel_rfl) (fun c a w h => h) (yieldsIf_skip (by first | rfl | kernel_rfl)) hS6 ?_
        simp only [List.setIfInBounds_toArray, List.set_cons_succ, List.set_cons_zero]
        refine takeD (i := 11) (d := 49) (v := .bool false) rfl rfl (by kernel_rfl) (by kernel_rfl) (by kernel_rfl) (fun c a w h => h) (yieldsIf_op rfl (fun w => by first | rfl | kernel_rfl | (go_simp; done))) hS6 ?_
        simp only [List.setIfInBounds_toArray, List.set_cons_succ, List.set_cons_zero]
        refine wpAnyH_done (by kernel_rfl) ?_ _
        clear hS6
        go_wp2_with fail
        go_meet
        exact ⟨(Upd.refl _ _).drew, by rw [HM.out, ← HL.out]; exact HV6.out.below (Below.refl _ _).drew⟩
      | true =>
        have HL := Lib.hid hlv
        clear hlv
        go_wp2_with fail
        refine wp_region_held_drew (S := fun Z => Below W6.heap.size W6 Z) rfl (Below.refl _ _).drew fun hS6 => ?_
        refine takeD (i := 0) (d := 38) (v := .pointer (some ⟨X.heap.size, 0, none⟩)) rfl rfl (by kernel_rfl) (by kernel_rfl) (by kernel_rfl) (fun c a w h => h) (yieldsIf_op rfl (fun w => by first | rfl | kernel_rfl | (go_simp; done))) hS6 ?_
        simp only [List.setIfInBounds_toArray, List.set_cons_succ, List.set_cons_zero]
        refine takeD (i := 1) (d := 39) (v := .bool true) rfl rfl (by kernel_rfl) (by kernel_rfl) (by kernel_rfl) (fun c a w h => h) (.inl ⟨by first | rfl | kernel_rfl, fun W' h => by have q0 : W'.cell? ⟨X.heap.size, 0, none⟩ = some (.bool true) := (by rw [(hF6 W' h).2.2.1.cell?, ← HL.out]; rfl); go_simp⟩) hS6 ?_
        simp only [List.setIfInBounds_toArray, List.set_cons_succ, List.set_cons_zero]
        refine takeD (i := 2) (d := 40) (v := .bool true) rfl rfl (by kernel_rfl) (by kernel_rfl) (by kernel_rfl) (fun c a w h => h) (yieldsIf_op rfl (fun w => by first | rfl | kernel_rfl | (go_simp; done))) hS6 ?_
        simp only [List.setIfInBounds_toArray, List.set_cons_succ, List.set_cons_zero]
        refine takeD (i := 3) (d := 41) (v := .pointer (some ⟨X.heap.size, 1, none⟩)) rfl rfl (by kernel_rfl) (by kernel_rfl) (by kernel_rfl) (fun c a w h => h) (yieldsIf_op rfl (fun w => by first | rfl | kernel_rfl | (go_simp; done))) hS6 ?_
        simp only [List.setIfInBounds_toArray, List.set_cons_succ, List.set_cons_zero]
        refine takeD (i := 4) (d := 42) (v := .agg CV) rfl rfl (by kernel_rfl) (by kernel_rfl) (by kernel_rfl) (fun c a w h => h) (yieldsIf_load (f := Value.bool) (l := p.set) (aggVarsL _ HP.out) (.tmp 41) rfl X.heap.size 1 rfl (fun W' h => hV16 W' h) HCV.out rfl) hS6 ?_
        simp only [List.setIfInBounds_toArray, List.set_cons_succ, List.set_cons_zero]
        refine takeD (i := 5) (d := 43) (v := .agg C1) rfl rfl (by kernel_rfl) (by kernel_rfl) (by kernel_rfl) (fun c a w h => h) (yieldsIf_load (f := oV) (l := s.cs) (aggSt _) (.tmp 11) rfl (X.heap.size + 2) 0 rfl (fun W' h => (hF6 W' h).2.2.2.2.1.at) HC1.out rfl) hS6 ?_
        simp only [List.setIfInBounds_toArray, List.set_cons_succ, List.set_cons_zero]
        refine takeD (i := 8) (d := 46) (v := .pointer (some ⟨X.heap.size, 1, none⟩)) rfl rfl (by kernel_rfl) (by kernel_rfl) (by kernel_rfl) (fun c a w h => h) (yieldsIf_op rfl (fun w => by first | rfl | kernel_rfl | (go_simp; done))) hS6 ?_
        simp only [List.setIfInBounds_toArray, List.set_cons_succ, List.set_cons_zero]
        refine takeD (i := 9) (d := 47) (v := .agg CV) rfl rfl (by kernel_rfl) (by kernel_rfl) (by kernel_rfl) (fun c a w h => h) (yieldsIf_load (f := Value.bool) (l := p.set) (aggVarsL _ HP.out) (.tmp 46) rfl X.heap.size 1 rfl (fun W' h => hV16 W' h) HCV.out rfl) hS6 ?_
        simp only [List.setIfInBounds_toArray, List.set_cons_succ, List.set_cons_zero]
        refine wpAnyH_ready (rs := [6]) (by kernel_rfl) (by simp) (AllReadyH.cons rfl (fun K' hK => ?_) AllReadyH.nil)
        refine callD (d := 44) (g := 30) (args := #[.agg C1]) rfl rfl (by first | kernel_rfl | (simp [execOp, resolve, invoke, Act.eval]) | go_simp) ?_
        refine (hst.rd _ C1 HC1).mono ?_
        rintro e7 W7 ⟨C7, rfl, HC7, hB7⟩
        replace hS6 := hS6.trans (hB7.mono hS6.size)
        refine ⟨_, rfl, hK.out _ _ hS6 fun _ => ?_⟩
        clear hK hB7
        simp only [List.setIfInBounds_toArray, List.set_cons_succ, List.set_cons_zero]
        refine wpAnyH_ready (rs := [7]) (by kernel_rfl) (by simp) (AllReadyH.cons rfl (fun K' hK => ?_) AllReadyH.nil)
        refine callD (d := 45) (g := 29) (args := #[.agg CV, .agg C7]) rfl rfl (by first | kernel_rfl | (simp [execOp, resolve, invoke, Act.eval]) | go_simp) ?_
        refine (rOr _ p.set (rdV s) HP.out (rdV_length s) CV C7 HCV HC7).mono ?_
        rintro e8 W8 ⟨C8, rfl, HC8, hB8⟩
        replace hS6 := hS6.trans (hB8.mono hS6.size)
        refine ⟨_, rfl, hK.out _ _ hS6 fun _ => ?_⟩
        clear hK hB8
        simp only [List.setIfInBounds_toArray, List.set_cons_succ, List.set_cons_zero]
        refine takeD (i := 10) (d := 48) (v := .bool (orV p.set (rdV s) != p.set)) rfl rfl (by kernel_rfl) (by kernel_rfl) (by kernel_rfl) (fun c a w h => h) (yieldsIf_op rfl (fun w => exec_neq_vars (.tmp 45) (.tmp 47) rfl (orV p.set (rdV s)) p.set (orV_length HP.out (rdV_length s)) HP.out HC8.out HCV.out rfl rfl w)) hS6 ?_
        simp only [List.setIfInBounds_toArray, List.set_cons_succ, List.set_cons_zero]
        refine takeD (i := 11) (d := 49) (v := .bool (orV p.set (rdV s) != p.set)) rfl rfl (by kernel_rfl) (by kernel_rfl) (by kernel_rfl) (fun c a w h => h) (yieldsIf_op rfl (fun w => by first | rfl | kernel_rfl | (go_simp; done))) hS6 ?_
        simp only [List.setIfInBounds_toArray, List.set_cons_succ, List.set_cons_zero]
        refine wpAnyH_done (by kernel_rfl) ?_ _
        have hb8 := (hF6 W8 hS6)
        have cw := hb8.1.cw
        have hV8 := HV6.out.below hS6
        have HU8 := Lib.hid (Upd.of_below (V.E (some l)) hS6 (Nat.le_refl _))
        have HV8 := Lib.hid hV8
        clear hb8 hS6 hF6 hV16 hV8
        cases hne : (orV p.set (rdV s) != p.set) with
        | false =>
          have hm : markS s i p (some b) rp = { rp with reach := rp.reach.set i p.live } := by
            unfold markS
            simp only [if_neg hmk0]
            rw [if_neg (by intro h; simp at hne; exact h.2 hne)]
          have HM := Lib.hid hm
          clear hm hne
          go_wp2_with fail
          go_meet
          exact ⟨HU8.out, by rw [HM.out]; exact HV8.out⟩
        | true =>
          have hm : markS s i p (some b) rp = ({ rp with reach := rp.reach.set i p.live } : Rp).wrong i 170 := by
            unfold markS
            simp only [if_neg hmk0]
            rw [if_pos ⟨HL.out, by simpa using hne⟩]
          have HM := Lib.hid hm
          clear hm hne
          go_wp2_with fail
          refine (rWrong W8 V.rb _ { rp with reach := rp.reach.set i p.live } i 170 HV8.out.rep).mono ?_
          rintro en W9 ⟨rfl, hr9, hu9⟩
          have hV9 : WVar V S W9 (some l) (some b) (({ rp with reach := rp.reach.set i p.live } : Rp).wrong i 170) := by
            have h := HV8.out
            refine ⟨hr9, ?_, ?_, ?_⟩
            · have := h.reach.upd hu9 (by show ¬ V.qb = V.rb; exact fun e => hF0.out.ne.1 e.symm)
              unfold Rp.wrong; split <;> exact this
            · have := h.len
              unfold Rp.wrong; split <;> exact this
            · rcases h.left with h1 | ⟨l', b', h1, h2, h3⟩
              · exact .inl h1
              · exact .inr ⟨l', b', h1, h2, h3.upd hu9 (by show ¬ l' = V.rb; exact (hL0.out l' h1).2.2.1)⟩
          have hU9 := HU8.out.trans hu9 (fun k _ h => .inl h)
          have H9 := Lib.hid (And.intro hU9 hV9)
          clear hr9 hu9 hV9 hU9 cw
          go_wp2_with fail
          go_meet
          exact ⟨H9.out.1, by rw [HM.out]; exact H9.out.2⟩
    case rest =>
      obtain ⟨hU7, hV7⟩ := hcut
      clear e0
      have HFZ : Hid (∀ Z, Upd (V.E (some l)) wc Z → WFix V S B Z ∧ Upd (V.E (some l)) X Z ∧ Row Value.bool Z X.heap.size 105 p.cs ∧ Row Value.bool Z (X.heap.size + 1) 105 zPl ∧ Row oV Z (X.heap.size + 2) 45 s.cs ∧ X.heap.size + 3 ≤ Z.heap.size) := Lib.hid fun Z hZ => HF.out Z (hU7.trans hZ (fun k _ h => h))
      have HV7 := Lib.hid hV7
      clear hU7 hV7 HF HV6 hs6
      have e0 : wc.cell? ⟨X.heap.size + 2, 0, none⟩ = some (.int .i64 12) := by rw [(HFZ.out wc (Upd.refl _ _)).2.2.2.2.1.cell?]; rw [show s.cs[0]? = some (oi s.kind) from rfl, hk]; rfl
      obtain ⟨hF7, hU7, hR7, hZ7, hs7, hz7⟩ := HFZ.out wc (Upd.refl _ _)
      have d0 : wc.cell? ⟨X.heap.size, 0, none⟩ = some (.bool p.live) := by rw [hR7.cell?]; rfl
      have hlr : Row Value.bool wc l 4 [b] := by
        rcases HV7.out.left with ⟨h, _⟩ | ⟨l', b', h1, h2, h3⟩
        · cases h
        · injection h1 with h1; injection h2 with h2; subst h1 h2; exact h3
      have l0 : wc.cell? ⟨l, 0, none⟩ = some (.bool b) := by rw [hlr.cell?]; rfl
      have lf0 := hlr.frozen 0
      have HLR := Lib.hid hlr
      have HU7 := Lib.hid hU7
      have HZ7 := Lib.hid hZ7
      clear hF7 hU7 hR7 hZ7 hs7 hlr
      cases hlv : p.live with
      | false =>
        have hst1 : stp S i t e p (some b) rp = (⟨false, zV16⟩, some b, markS s i p (some b) rp) := by unfold stp; simp only [at'_of hs, hk, hlv]; rfl
        have HST := Lib.hid hst1
        rw [hlv] at d0
        have hZ7 := HZ7.out
        clear hst1 hlv
        go_wp2_with (first
          | ((with_reducible refine store_agg (f := Value.bool) (l := zPl) (l' := zPl) (t := 105) (C := zPlC) (aggPl _ rfl) (.tmp 10) (.tmp 92) ?_ ?_ (X.heap.size + 1) ?_ ?_ ?_ hZ7 ?_ bV_one ?_); rfl; rfl; rfl; rfl; rfl; rfl; intro Wa hsa hGa hza))
        refine bodyPost_ret (results_agg (f := Value.bool) (l := zPl) rfl _ (aggPl _ rfl) (X.heap.size + 1) 0 rfl hsa.at) rfl ?_
        rw [HST.out]
        exact ⟨_, rfl, Lib.hid rfl, Lib.hid rfl, HU7.out.grown hGa (fun b e => by cases e; exact .inr (by omega)), HV7.out.grow HEn.out hGa (by omega)⟩
      | true =>
        have hst1 : stp S i t e p (some b) rp = (⟨false, zV16⟩, some true, markS s i p (some b) rp) := by unfold stp; simp only [at'_of hs, hk, hlv]; rfl
        have HST := Lib.hid hst1
        rw [hlv] at d0
        have hneN : X.heap.size + 1 ≠ l := fun e => HEn.out (X.heap.size + 1) (by omega) (.inr (.inr (by rw [e])))
        have hZ8 : Row Value.bool (wc.setCell ⟨l, 0, none⟩ (.bool true)) (X.heap.size + 1) 105 zPl := HZ7.out.set_other hneN _ _
        have HU8 := Lib.hid (HU7.out.set (b := l) (.inl (.inr (.inr rfl))) 0 (.bool true))
        have HV8 : Hid (WVar V S (wc.setCell ⟨l, 0, none⟩ (.bool true)) (some l) (some true) (markS s i p (some b) rp)) := Lib.hid (by
          have h := HV7.out
          have h4 := hL0.out l rfl
          exact ⟨h.rep.set_other (fun e => h4.2.2.1 e.symm) _ _, h.reach.set_other (fun e => h4.2.2.2.1 e.symm) _ _, h.len, .inr ⟨l, true, rfl, rfl, HLR.out.set 0 true⟩⟩)
        clear hst1 hlv hneN
        go_wp2_with (first
          | ((with_reducible refine store_agg (f := Value.bool) (l := zPl) (l' := zPl) (t := 105) (C := zPlC) (aggPl _ rfl) (.tmp 10) (.tmp 92) ?_ ?_ (X.heap.size + 1) ?_ ?_ ?_ hZ8 ?_ bV_one ?_); rfl; rfl; rfl; rfl; rfl; rfl; intro Wa hsa hGa hza))
        refine bodyPost_ret (results_agg (f := Value.bool) (l := zPl) rfl _ (aggPl _ rfl) (X.heap.size + 1) 0 rfl hsa.at) rfl ?_
        rw [HST.out]
        exact ⟨_, rfl, Lib.hid rfl, Lib.hid rfl, HU8.out.grown hGa (fun b e => by cases e; exact .inr (by omega)), HV8.out.grow HEn.out hGa (by omega)⟩
end Go.Proofs.YtllomcmhkocdfaaGreatDoor

/- The walk through a block. -/
namespace Go.Proofs.YtllomcmhkocdfaaGreatDoor
open Go.RowKit Mem
set_option maxRecDepth 100000

theorem rSt {S : List St} {B : List (List Int)} (V : WEnv) (hS : S.length ≤ 64) (i : Nat) (s : St) (hs : S[i]? = some s) (hst : StWalk s) (t e : Blk) (IHt : BlkC V S B t s.t) (IHe : BlkC V S B e s.e) : StC V S B i t e := by
  by_cases h10 : s.kind = 10
  · exact rSt_If V hS i s hs hst t e h10 IHt IHe
  by_cases h11 : s.kind = 11
  · exact rSt_Loop V hS i s hs hst t e h11 IHt IHe
  by_cases h12 : s.kind = 12
  · exact rSt_Brk V hS i s hs hst t e h12 IHt IHe
  by_cases h14 : s.kind = 14
  · exact rSt_Rej V hS i s hs hst t e h14 IHt IHe
  by_cases h15 : s.kind = 15
  · exact rSt_Acc V hS i s hs hst t e h15 IHt IHe
  cases hfl : flB s with
  | true => exact rSt_Fail V hS i s hs hst t e h10 h11 h12 h14 h15 hfl IHt IHe
  | false => exact rSt_Plain V hS i s hs hst t e h10 h11 h12 h14 h15 hfl IHt IHe

set_option maxHeartbeats 16000000 in
theorem rBlk {S : List St} {B : List (List Int)} (V : WEnv) (hS : S.length ≤ 64) (hB : B.length ≤ 129) (hBl : ∀ l ∈ B, l.length ≤ 4096) (hst : ∀ s ∈ S, StWalk s) (n : Nat) : ∀ (b : Blk), b.size < n → ∀ (k : Int), Rep S B k b → BlkC V S B b k := by
  induction n with
  | zero => intro b hb; omega
  | succ n ih =>
  intro b hb k hrep X p hp lp lf rp C HC hF hL hV
  rcases hrep with ⟨rfl, rfl⟩ | ⟨k, rfl, l, hkl, hrl⟩
  · refine (rBlkNeg X p.cs (p.cs_length hp) C HC (lpV lp) _ _).mono ?_
    rintro e w' ⟨C', rfl, HC', hB'⟩
    exact ⟨C', rfl, HC', Lib.hid hp, Upd.of_below _ hB' (Nat.le_refl _), hV.below hB'⟩
  obtain ⟨kb, ko, kv, hkp, hkc0, hkr, hkb, hkn⟩ := hF.pg.block hkl
  obtain ⟨lq, lc, rfl, hlo⟩ := hkr.opn
  have hll := hBl l (List.mem_of_getElem? hkl)
  have hkn1 : (k : Int) < (V.bs.n : Int) := by omega
  have hkneg : ¬ ((k : Int) < 0) := by omega
  have hE := hV.lts
  have hEn : ∀ k, X.heap.size ≤ k → ¬ V.E lp k := fun k hk h => absurd (hE k h) (by omega)
  have HEn := Lib.hid hEn
  have hF0 := Lib.hid hF
  have hV0 := Lib.hid hV
  have hL0 := Lib.hid hL
  have HP := Lib.hid hp
  have HRL := Lib.hid hrl
  have HLO := Lib.hid hlo
  have c1 := hF.box.c1
  rw [hkp] at c1
  have HC1 := Lib.hid c1
  have HKC := Lib.hid hkc0
  have hpbX := hF.top.1
  have hHP17 := Lib.hid (p.cs_length hp)
  clear hF hV hL hp hkr hlo hrl hkp hE hEn c1 hkc0 hkn
  go_enter Tryz.func49, Tryz.ntmps49
  go_upto_region 1 with (fail)
  obtain ⟨W, hW, hR, hZ, hBW, hsW⟩ : ∃ W, (X.alloc (.cells C 105)).alloc (.cells zPlC 105) = W ∧ Row Value.bool W X.heap.size 105 p.cs ∧ Row Value.bool W (X.heap.size + 1) 105 zPl ∧ Below X.heap.size X W ∧ W.heap.size = X.heap.size + 2 :=
    ⟨_, rfl, Row.alloc (Row.new X _ (by rw [HC.out])) _, heap_new' _ _ _ (by simp), ((Below.refl _ _).alloc (Nat.le_refl _) _).alloc (by simp) _, by simp⟩
  rw [hW]
  clear hW
  have c1 := (hBW.cell (p := ⟨V.pb, 1, none⟩) hpbX).trans HC1.out
  have k0 : W.cell? ⟨kb, ko + k, none⟩ = some (.slice lq l.length lc) := ((hF0.out.below.trans (hBW.mono hF0.out.below.size)).cell (p := ⟨kb, ko + k, none⟩) hkb).trans HKC.out
  have hUW : Upd (V.E lp) X W := Upd.of_below _ hBW (Nat.le_refl _)
  have hVW := hV0.out.below hBW
  clear hBW
  go_wp2_with fail
  clear c1 k0
  go_loopw [20] (fun i wr => ∃ (j : Nat) (r : Blk) (pl : Pl) (lf' : Option Bool) (rp' : Rp), j ≤ l.length ∧ i = .int .i64 j ∧ RepL S B (l.drop j) r ∧ r.size ≤ b.size ∧ wk S r pl lf' rp' = wk S b p lf rp ∧ pl.set.length = 16 ∧ Row Value.bool wr X.heap.size 105 pl.cs ∧ Row Value.bool wr (X.heap.size + 1) 105 zPl ∧ Upd (V.E lp) X wr ∧ WVar V S wr lp lf' rp') (fun i _ => l.length - (intOf i).toNat)
  case atStart => exact ⟨0, b, p, lf, rp, by omega, rfl, HRL.out, Nat.le_refl _, rfl, HP.out, hR, hZ, hUW, hVW⟩
  case round =>
    clear hR hZ hUW hVW hsW
    obtain ⟨j, r, pl, lf', rp', hj, rfl, hr, hrs, hwk, hpl, hR, hZ, hU, hV⟩ := hrel
    have HW := Lib.hid hwk
    have HPl := Lib.hid hpl
    have HV := Lib.hid hV
    have HU := Lib.hid hU
    have HZ := Lib.hid hZ
    clear hwk hpl hV hU hZ
    have HL17 := Lib.hid (pl.cs_length HPl.out)
    by_cases hlt : j < l.length
    · have hq : (j : Int) < (l.length : Int) := by omega
      rcases HLO.out with h0 | ⟨lb, lo, rfl, hlc, hla, hlb⟩
      · rw [h0] at hlt; simp at hlt
      rw [drop_cons hlt] at hr
      obtain ⟨i, t, e, r', s, hi, rfl, hsi, hrt, hre, hr'⟩ := hr.cons
      have hFr := hF0.out.upd HU.out hL0.out
      have hcl : wr.cell? ⟨lb, lo + j, none⟩ = some (.int .i64 (i : Int)) := by
        rw [(hla.below hFr.below hlb).cell 0 j hlt, ← hi, List.getD_eq_getElem?_getD]; try rfl
      have ct := hFr.ct
      have hsz : t.size < n ∧ e.size < n ∧ r'.size ≤ b.size := by simp only [Blk.size] at hrs; omega
      have HWK := Lib.hid ((wk_cons S i t e r' pl lf' rp').symm.trans HW.out)
      have HFR := Lib.hid hFr
      have HR' := Lib.hid (And.intro hr' (And.intro hrt hre))
      obtain ⟨Cl, HCl⟩ : ∃ D, Hid (D = (pl.cs.map Value.bool).toArray) := ⟨_, Lib.hid rfl⟩
      clear hFr hr' hrt hre hr hi hla hrs HW
      go_wp2_with (first
        | ((with_reducible refine load_agg (f := Value.bool) (l := pl.cs) (aggPl _ HL17.out) (.tmp 6) ?_ ?_ X.heap.size 0 ?_ hR.at HCl.out ?_); rfl; rfl; rfl))
      refine (rSt V hS i s hsi (hst s (List.mem_of_getElem? hsi)) t e (ih t hsz.1 _ HR'.out.2.1) (ih e hsz.2.1 _ HR'.out.2.2) wr pl HPl.out lp lf' rp' Cl HCl HFR.out hL0.out HV.out).mono ?_
      rintro en W2 ⟨C2, rfl, HC2, HL2, hU2, hV2⟩
      generalize stp S i t e pl lf' rp' = a at HWK HC2 HL2 hV2
      obtain ⟨pa, lfa, ra⟩ := a
      simp only at HWK HC2 HL2 hV2
      have hR2 := hR.upd hU2 (HEn.out _ (Nat.le_refl _))
      have hZ2 := HZ.out.upd hU2 (HEn.out _ (by omega))
      have HU2 := Lib.hid (HU.out.trans hU2 (fun k _ h => h))
      have HV2 := Lib.hid hV2
      have HZ2 := Lib.hid hZ2
      have HLa := Lib.hid (pa.cs_length HL2.out)
      have hl17 : pa.cs.length = pl.cs.length := by rw [HLa.out, HL17.out]
      have HLL := Lib.hid hl17
      clear hl17 hR hcl ct hU2 hV2 hZ2 HV HU HZ
      go_wp2_with (first
        | ((with_reducible refine store_agg (f := Value.bool) (l := pl.cs) (l' := pa.cs) (t := 105) (C := C2) (aggPl _ HLa.out) (.tmp 6) (.tmp 28) ?_ ?_ X.heap.size ?_ ?_ ?_ hR2 ?_ bV_one ?_); rfl; rfl; rfl; exact HC2.out; rfl; exact HLL.out; (intro W3 hs3 hG3 hz3); (refine Pause.back ?_)))
      have H3 := Lib.hid (And.intro hs3 (And.intro (HZ2.out.grown hG3 (by intro e; injection e with e; omega)) (And.intro (HU2.out.grown hG3 (fun b e => by cases e; exact .inr (Nat.le_refl _))) (HV2.out.grow HEn.out hG3 (Nat.le_refl _)))))
      clear hR2 hs3 hG3 hz3
      refine Pause.out ?_
      go_wp2_with fail
      go_roundw
      case rel => exact ⟨j + 1, r', pa, lfa, ra, by omega, by go_num, HR'.out.1, hsz.2.2, HWK.out, HL2.out, H3.out⟩
      case measure => simp [intOf]; omega
    · obtain rfl : j = l.length := by omega
      rw [List.drop_length] at hr
      have hrn := hr.nil
      subst hrn
      have HE : Hid ((pl, lf', rp') = wk S b p lf rp) := Lib.hid HW.out
      obtain ⟨Cl, HCl⟩ : ∃ D, Hid (D = (pl.cs.map Value.bool).toArray) := ⟨_, Lib.hid rfl⟩
      have hZ := HZ.out
      have hlt' := hR.lt
      clear hr HW
      go_wp2_with (first
        | ((with_reducible refine load_agg (f := Value.bool) (l := pl.cs) (aggPl _ HL17.out) (.tmp 6) ?_ ?_ X.heap.size 0 ?_ hR.at HCl.out ?_); rfl; rfl; rfl)
        | ((with_reducible refine store_agg (f := Value.bool) (l := zPl) (l' := pl.cs) (t := 105) (C := Cl) (aggPl _ HL17.out) (.tmp 8) (.tmp 30) ?_ ?_ (X.heap.size + 1) ?_ ?_ ?_ hZ ?_ bV_one ?_); rfl; rfl; rfl; exact HCl.out; rfl; exact HL17.out; (intro W3 hs3 hG3 hz3)))
      refine bodyPost_ret (results_agg (f := Value.bool) (l := pl.cs) rfl _ (aggPl _ HL17.out) (X.heap.size + 1) 0 rfl hs3.at) rfl ?_
      rw [← HE.out]
      exact ⟨_, rfl, Lib.hid rfl, HPl, HU.out.grown hG3 (fun b e => by cases e; exact .inr (by omega)), HV.out.grow HEn.out hG3 (by omega)⟩
end Go.Proofs.YtllomcmhkocdfaaGreatDoor
