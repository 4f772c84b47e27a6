/- A transducer that a function is making; clones of classes and flags. -/
import Derived.Test.YtgflelodpcgmbaaGreatDoorMTrP
import Derived.Test.YtgflelodpcgmbaaGreatDoorMSubRow
import Derived.Test.YtgflelodpcgmbaaGreatDoorMRMade
import Derived.Test.YtgflelodpcgmbaaGreatDoorMOwnIn
import Derived.Laws.OwnMore
namespace Go.Proofs.YtgflelodpcgmbaaGreatDoor
open Go Go.RowKit Mem
set_option maxRecDepth 100000

theorem eltMv : EltK Tryz.prog 95 98 2 32 := EltK.mk' (z := .agg #[.int .i64 0, .slice none 0 0]) Tryz.underlying95 (by kernel_rfl) rfl
theorem eltRows : Elt Tryz.prog 51 95 24 := Elt.mk' (z := .slice none 0 0) Tryz.underlying51 (by kernel_rfl) rfl
/-- the two cells of a move -/
def mvL (x : Int × OC) : List OC := [oi x.1, x.2]
abbrev mvA (x : Int × OC) : Array Value := #[.int .i64 x.1, x.2.1]
theorem mvL_len (x : Int × OC) : (mvL x).length = 2 := rfl
theorem piL_len (x : Pc) : (piL x).length = 2 := rfl
section
variable {α : Type} {f : α → Value} {K : Nat} {enc : α → List OC} {w w' : World} {base : Nat} {e ty : TypeId} {v : Value} {l : List α}
/-- a row that is changed is of this type -/
def IsT (w : World) (row : Option Nat) (ty : TypeId) : Prop := ∀ k, row = some k → ∃ cs fr, w.heap[k]? = some (.cells cs ty fr)
theorem OwnK.isT (h : OwnK K enc w base e v l) : IsT w v.ownBlock e := by
  intro k hk
  rcases h.2 with ⟨rfl, _⟩ | ⟨g2, cap, cur, rfl, _, hc, _⟩
  · cases hk
  · cases hk; exact ⟨_, _, hc⟩
theorem Own_isT (h : Mem.Own f w base e v l) : IsT w v.ownBlock e := by
  intro k hk
  rcases h.2 with ⟨rfl, _⟩ | ⟨g2, cap, cur, rfl, _, hc, _⟩
  · cases hk
  · cases hk; exact ⟨_, _, hc⟩
theorem Row_isT {b : Nat} (h : Row f w b e l) : IsT w (some b) e := by
  intro k hk
  cases hk
  exact ⟨_, _, h⟩
theorem OwnK.offT (h : OwnK K enc w base e v l) {row : Option Nat} (hg : w.grownBy w' row) (hr : IsT w row ty) (hne : e ≠ ty) : OwnK K enc w' base e v l := h.grown hg fun k hk he => by
  obtain ⟨c1, f1, h1⟩ := h.isT k hk
  obtain ⟨c2, f2, h2⟩ := hr k he.symm
  rw [h1] at h2
  injection h2 with h2
  injection h2 with _ h2
  exact hne h2
theorem Own_offT (h : Mem.Own f w base e v l) {row : Option Nat} (hg : w.grownBy w' row) (hr : IsT w row ty) (hne : e ≠ ty) : Mem.Own f w' base e v l := h.grown' hg fun k hk he => by
  obtain ⟨c1, f1, h1⟩ := Own_isT h k hk
  obtain ⟨c2, f2, h2⟩ := hr k he.symm
  rw [h1] at h2
  injection h2 with h2
  injection h2 with _ h2
  exact hne h2
theorem Row_offT {b : Nat} (h : Row f w b e l) {row : Option Nat} (hg : w.grownBy w' row) (hr : IsT w row ty) (hne : e ≠ ty) : Row f w' b e l := h.grown hg fun he => by
  obtain ⟨c2, f2, h2⟩ := hr b he.symm
  unfold Row at h
  rw [h] at h2
  injection h2 with h2
  injection h2 with _ h2
  exact hne h2
end
/-- a row of moves that the function has made -/
def RowAt (w : World) (base : Nat) (u : OC) (ms : List Mv) : Prop := ∃ xs : List (Int × OC), xs.length = ms.length ∧ OwnK 2 mvL w base 98 (oV u) xs ∧ ∀ i (h : i < xs.length) (h2 : i < ms.length), xs[i].1 = ms[i].tgt ∧ OwnK 2 piL w base 100 (oV xs[i].2) ms[i].out
theorem RowAt.below' {w w' : World} {base : Nat} {u : OC} {ms : List Mv} (h : RowAt w base u ms) (hb : Below w.heap.size w w') : RowAt w' base u ms := by
  obtain ⟨xs, h1, h2, h3⟩ := h
  exact ⟨xs, h1, h2.below' hb, fun i a b => ⟨(h3 i a b).1, (h3 i a b).2.below' hb⟩⟩
theorem RowAt.offT {w w' : World} {base : Nat} {u : OC} {ms : List Mv} {ty : TypeId} {row : Option Nat} (h : RowAt w base u ms) (hg : w.grownBy w' row) (hr : IsT w row ty) (h1 : 98 ≠ ty) (h2 : 100 ≠ ty) : RowAt w' base u ms := by
  obtain ⟨xs, g1, g2, g3⟩ := h
  exact ⟨xs, g1, g2.offT hg hr h1, fun i a b => ⟨(g3 i a b).1, (g3 i a b).2.offT hg hr h2⟩⟩
theorem RowAt.mono {w : World} {base b' : Nat} {u : OC} {ms : List Mv} (h : RowAt w base u ms) (hb : b' ≤ base) : RowAt w b' u ms := by
  obtain ⟨xs, g1, g2, g3⟩ := h
  exact ⟨xs, g1, g2.mono hb, fun i a b => ⟨(g3 i a b).1, (g3 i a b).2.mono hb⟩⟩
/-- the rows of moves that the function has made -/
def RowsAt (w : World) (base : Nat) (us : List OC) (rows : List (List Mv)) : Prop := us.length = rows.length ∧ ∀ i (h : i < us.length) (h2 : i < rows.length), RowAt w base us[i] rows[i]
theorem RowsAt.snoc {w : World} {base : Nat} {us : List OC} {rows : List (List Mv)} (h : RowsAt w base us rows) {u : OC} {ms : List Mv} (hu : RowAt w base u ms) : RowsAt w base (us ++ [u]) (rows ++ [ms]) := by
  refine ⟨by rw [List.length_append, List.length_append, h.1]; rfl, fun i h1 h2 => ?_⟩
  rcases Nat.lt_or_ge i us.length with hi | hi
  · rw [List.getElem_append_left hi, List.getElem_append_left (by rw [← h.1]; exact hi)]
    exact h.2 i hi _
  · have hie : i = us.length := by simp at h1; omega
    subst hie
    have e1 : (us ++ [u])[us.length]'h1 = u := by simp
    have e2 : (rows ++ [ms])[us.length]'h2 = ms := by simp [h.1]
    rw [e1, e2]
    exact hu
/-- the struct's box and what its four slices hold -/
structure TrB (w : World) (base nt : Nat) (vc vm vf ve : OC) (cls : List Cl) (us : List OC) (rows : List (List Mv)) (fin : List Bool) (ends : List (List UInt8)) : Prop where
  box : Row oV w nt 53 [vc, vm, vf, ve]
  c : OwnK 4 clL w base 80 (oV vc) cls
  o : Mem.Own oV w base 95 (oV vm) us
  m : RowsAt w base us rows
  f : Mem.Own Value.bool w base 4 (oV vf) fin
  e : Lvl w base (oV ve) ends
  lo : base ≤ w.heap.size
section
variable {w w' w3 : World} {base nt : Nat} {vc vm vf ve : OC} {cls : List Cl} {us : List OC} {rows : List (List Mv)} {fin : List Bool} {ends : List (List UInt8)}
theorem TrB.below' (h : TrB w base nt vc vm vf ve cls us rows fin ends) (hb : Below w.heap.size w w') : TrB w' base nt vc vm vf ve cls us rows fin ends :=
  ⟨h.box.below hb h.box.lt, h.c.below' hb, h.o.below' hb, ⟨h.m.1, fun i a b => (h.m.2 i a b).below' hb⟩, h.f.below' hb, h.e.below hb, Nat.le_trans h.lo hb.size⟩
theorem TrB.drew (h : TrB w base nt vc vm vf ve cls us rows fin ends) : TrB w.drew base nt vc vm vf ve cls us rows fin ends := h.below' (Below.refl _ _).drew
/-- what a change of one row of another type leaves -/
theorem TrB.box_offT (h : TrB w base nt vc vm vf ve cls us rows fin ends) {row : Option Nat} {ty : TypeId} (hg : w.grownBy w' row) (hr : IsT w row ty) (hne : 53 ≠ ty) : Row oV w' nt 53 [vc, vm, vf, ve] := Row_offT h.box hg hr hne
theorem RowsAt.offT {row : Option Nat} {ty : TypeId} (h : RowsAt w base us rows) (hg : w.grownBy w' row) (hr : IsT w row ty) (h1 : 98 ≠ ty) (h2 : 100 ≠ ty) : RowsAt w' base us rows := ⟨h.1, fun i a b => (h.2 i a b).offT hg hr h1 h2⟩
theorem Lvl_offT {v : Value} {row : Option Nat} {ty : TypeId} (h : Lvl w base v ends) (hg : w.grownBy w' row) (hr : IsT w row ty) (h1 : 29 ≠ ty) (h2 : 5 ≠ ty) : Lvl w' base v ends := by
  obtain ⟨vals, g1, g2, g3⟩ := h
  exact ⟨vals, g1, Own_offT g2 hg hr h1, fun i a b => Own_offT (g3 i a b) hg hr h2⟩
/-- a field of the box set anew -/
theorem box_set (hbox : Row oV w nt 53 [vc, vm, vf, ve]) (i : Nat) (x : OC) : Row oV (w.setCell ⟨nt, i, none⟩ (oV x)) nt 53 ([vc, vm, vf, ve].set i x) := hbox.set i x
/-- a row more -/
theorem TrB.rowMore (h : TrB w base nt vc vm vf ve cls us rows fin ends) {u : OC} {ms : List Mv} (hu : RowAt w base u ms) (ob : Obj) {p3 : Option Addr} {n3 c3 : Nat} (hO : Mem.Own oV w3 base 95 (.slice p3 n3 c3) (us ++ [u])) (hG : (w.alloc ob).grownBy w3 (oV vm).ownBlock) :
    Row oV w3 nt 53 [vc, vm, vf, ve] ∧ TrB (w3.setCell ⟨nt, 1, none⟩ (.slice p3 n3 c3)) base nt vc (slO p3 n3 c3) vf ve cls (us ++ [u]) (rows ++ [ms]) fin ends := by
  have ha := below_al (Below.refl w.heap.size w) (Nat.le_refl _) ob
  have h2 := h.below' ha
  have hT := Own_isT h2.o
  have r1 := Row_offT h2.box hG hT (by decide)
  have hg1 := grown_one w3 nt 1 (.slice p3 n3 c3)
  have hT1 := Row_isT r1
  refine ⟨r1, ⟨box_set r1 1 (slO p3 n3 c3), (h2.c.offT hG hT (by decide)).offT hg1 hT1 (by decide), Own_offT hO hg1 hT1 (by decide), ((h2.m.snoc (hu.below' ha)).offT hG hT (by decide) (by decide)).offT hg1 hT1 (by decide) (by decide), Own_offT (Own_offT h2.f hG hT (by decide)) hg1 hT1 (by decide), Lvl_offT (Lvl_offT h2.e hG hT (by decide) (by decide)) hg1 hT1 (by decide) (by decide), ?_⟩⟩
  have := h2.lo; have := hG.size; have := hg1.size; omega
/-- a class more -/
theorem TrB.clsMore (h : TrB w base nt vc vm vf ve cls us rows fin ends) {cls' : List Cl} (ob : Obj) {p3 : Option Addr} {n3 c3 : Nat} (hO : OwnK 4 clL w3 base 80 (.slice p3 n3 c3) cls') (hG : (w.alloc ob).grownBy w3 (oV vc).ownBlock) :
    Row oV w3 nt 53 [vc, vm, vf, ve] ∧ TrB (w3.setCell ⟨nt, 0, none⟩ (.slice p3 n3 c3)) base nt (slO p3 n3 c3) vm vf ve cls' us rows fin ends := by
  have ha := below_al (Below.refl w.heap.size w) (Nat.le_refl _) ob
  have h2 := h.below' ha
  have hT := h2.c.isT
  have r1 := Row_offT h2.box hG hT (by decide)
  have hg1 := grown_one w3 nt 0 (.slice p3 n3 c3)
  have hT1 := Row_isT r1
  refine ⟨r1, ⟨box_set r1 0 (slO p3 n3 c3), hO.offT hg1 hT1 (by decide), Own_offT (Own_offT h2.o hG hT (by decide)) hg1 hT1 (by decide), (h2.m.offT hG hT (by decide) (by decide)).offT hg1 hT1 (by decide) (by decide), Own_offT (Own_offT h2.f hG hT (by decide)) hg1 hT1 (by decide), Lvl_offT (Lvl_offT h2.e hG hT (by decide) (by decide)) hg1 hT1 (by decide) (by decide), ?_⟩⟩
  have := h2.lo; have := hG.size; have := hg1.size; omega
/-- a flag more -/
theorem TrB.finMore (h : TrB w base nt vc vm vf ve cls us rows fin ends) {fin' : List Bool} (ob : Obj) {p3 : Option Addr} {n3 c3 : Nat} (hO : Mem.Own Value.bool w3 base 4 (.slice p3 n3 c3) fin') (hG : (w.alloc ob).grownBy w3 (oV vf).ownBlock) :
    Row oV w3 nt 53 [vc, vm, vf, ve] ∧ TrB (w3.setCell ⟨nt, 2, none⟩ (.slice p3 n3 c3)) base nt vc vm (slO p3 n3 c3) ve cls us rows fin' ends := by
  have ha := below_al (Below.refl w.heap.size w) (Nat.le_refl _) ob
  have h2 := h.below' ha
  have hT := Own_isT h2.f
  have r1 := Row_offT h2.box hG hT (by decide)
  have hg1 := grown_one w3 nt 2 (.slice p3 n3 c3)
  have hT1 := Row_isT r1
  refine ⟨r1, ⟨box_set r1 2 (slO p3 n3 c3), (h2.c.offT hG hT (by decide)).offT hg1 hT1 (by decide), Own_offT (Own_offT h2.o hG hT (by decide)) hg1 hT1 (by decide), (h2.m.offT hG hT (by decide) (by decide)).offT hg1 hT1 (by decide) (by decide), Own_offT hO hg1 hT1 (by decide), Lvl_offT (Lvl_offT h2.e hG hT (by decide) (by decide)) hg1 hT1 (by decide) (by decide), ?_⟩⟩
  have := h2.lo; have := hG.size; have := hg1.size; omega
/-- an ending more: an empty one -/
theorem TrB.endMore (h : TrB w base nt vc vm vf ve cls us rows fin ends) {vals : List OC} (hv : vals.length = ends.length) (hv2 : Mem.Own oV w base 29 (oV ve) vals) (hv3 : ∀ i (h : i < vals.length) (h2 : i < ends.length), Mem.Own u8V w base 5 (oV vals[i]) ends[i]) (ob : Obj) (x : OC) (hx : Mem.Own u8V w base 5 (oV x) []) {p3 : Option Addr} {n3 c3 : Nat} (hO : Mem.Own oV w3 base 29 (.slice p3 n3 c3) (vals ++ [x])) (hG : (w.alloc ob).grownBy w3 (oV ve).ownBlock) :
    Row oV w3 nt 53 [vc, vm, vf, ve] ∧ TrB (w3.setCell ⟨nt, 3, none⟩ (.slice p3 n3 c3)) base nt vc vm vf (slO p3 n3 c3) cls us rows fin (ends ++ [[]]) := by
  have ha := below_al (Below.refl w.heap.size w) (Nat.le_refl _) ob
  have h2 := h.below' ha
  have hT := Own_isT (hv2.below' ha)
  have r1 := Row_offT h2.box hG hT (by decide)
  have hg1 := grown_one w3 nt 3 (.slice p3 n3 c3)
  have hT1 := Row_isT r1
  have hold : ∀ i (h : i < vals.length) (h2 : i < ends.length), Mem.Own u8V w3 base 5 (oV vals[i]) ends[i] := fun i a b => Own_offT ((hv3 i a b).below' ha) hG hT (by decide)
  have hnew := Own_offT (hx.below' ha) hG hT (by decide)
  have hL : Lvl w3 base (.slice p3 n3 c3) (ends ++ [[]]) := Lvl.snoc (x := x) hv hold hnew hO
  refine ⟨r1, ⟨box_set r1 3 (slO p3 n3 c3), (h2.c.offT hG hT (by decide)).offT hg1 hT1 (by decide), Own_offT (Own_offT h2.o hG hT (by decide)) hg1 hT1 (by decide), (h2.m.offT hG hT (by decide) (by decide)).offT hg1 hT1 (by decide) (by decide), Own_offT (Own_offT h2.f hG hT (by decide)) hg1 hT1 (by decide), Lvl_offT hL hg1 hT1 (by decide) (by decide), ?_⟩⟩
  have := h2.lo; have := hG.size; have := hg1.size; omega
/-- a made row reads as it -/
theorem RowAt.rd {u : OC} {ms : List Mv} (h : RowAt w base u ms) : RdMv w (oV u) ms := by
  obtain ⟨xs, h1, h2, h3⟩ := h
  obtain ⟨p, cap, hu⟩ := h2.slice
  have hr := h2.rd mvL_len
  rw [hu] at hr ⊢
  rcases hr with ⟨q, hq, hq2⟩ | ⟨b, o, c, hq, hc, ha, hl⟩
  · subst hq2
    have : ms = [] := List.length_eq_zero_iff.1 h1.symm
    subst this
    cases hq
    exact .inl ⟨_, rfl, rfl⟩
  · cases hq
    refine .inr ⟨b, o, cap, by rw [h1], by rw [← h1]; exact hc, fun i hi => ?_, hl⟩
    have hi2 : i < xs.length := by omega
    have e0 := ha i hi2 0 (by show 0 < 2; omega)
    have e1 := ha i hi2 1 (by show 1 < 2; omega)
    obtain ⟨t1, t2⟩ := h3 i hi2 hi
    rw [Nat.add_zero] at e0
    refine ⟨e0.trans (by rw [← t1]; rfl), oV (xs[i]'hi2).2, e1.trans rfl, t2.rd piL_len⟩
theorem TrB.rd (h : TrB w base nt vc vm vf ve cls us rows fin ends) : TrAt w (.agg #[oV vc, oV vm, oV vf, oV ve]) ⟨cls, rows, fin, ends⟩ := by
  refine ⟨_, _, _, _, rfl, h.c.rd clL_len, ?_, h.f.rd, ?_⟩
  · rcases h.o.rd with ⟨q, hq1, hq2⟩ | ⟨b, o, cap, hq1, hc, hat, hbl⟩
    · rw [hq1]
      have hm := h.m.1
      rw [hq2] at hm
      exact .inl ⟨q, rfl, List.length_eq_zero_iff.1 hm.symm⟩
    · rw [hq1]
      refine .inr ⟨b, o, cap, by rw [h.m.1], by rw [← h.m.1]; exact hc, fun i hi => ?_, hbl⟩
      have hi2 : i < us.length := by rw [h.m.1]; exact hi
      exact ⟨oV us[i], by rw [hat i hi2, List.getElem?_eq_getElem hi2]; rfl, (h.m.2 i hi2 hi).rd⟩
  · obtain ⟨vals, g1, g2, g3⟩ := h.e
    rcases g2.rd with ⟨q, hq1, hq2⟩ | ⟨b, o, cap, hq1, hc, hat, hbl⟩
    · rw [hq1]
      rw [hq2] at g1
      exact .inl ⟨q, rfl, List.length_eq_zero_iff.1 g1.symm⟩
    · rw [hq1]
      refine .inr ⟨b, o, cap, by rw [g1], by rw [← g1]; exact hc, fun i hi => ?_, hbl⟩
      have hi2 : i < vals.length := by rw [g1]; exact hi
      exact ⟨oV vals[i], by rw [hat i hi2, List.getElem?_eq_getElem hi2]; rfl, (g3 i hi2 hi).rd⟩
end

section
variable {α : Type} {K : Nat} {enc : α → List OC} {w : World} {base : Nat} {e : TypeId} {v : Value} {l : List α}
variable {P : Program} {ops : Array Oper} {rest : List Oper} {o : Oper} {a : Act} {Q : Exit → Act → World → Prop}
/-- APPEND of what a slice of structs reads as -/
theorem append_rdk {t : TypeId} {bytes : Nat} (E : EltK P t e K bytes) (hK : 0 < K) (hk : ∀ x, (enc x).length = K) (s x : Operand) (hgd : o.guard = none) (ho : o.op = .call { callee := .builtin .append, args := #[s, x], argTypes := #[t, t] })
    (hs : a.eval s = v) (hown : OwnK K enc w base e v l) (m : List α) (b off c : Nat) (hx : a.eval x = .slice (some ⟨b, off, none⟩) m.length c) (hat : ∀ i (h : i < m.length), At oV w b (off + i * K) (enc m[i]))
    (hn : (l.length + m.length) * bytes ≤ 140737488355328) (hn2 : l.length + m.length ≤ 140737488355328) (hbase : base ≤ w.heap.size) (r : List α) (hr : l ++ m = r)
    (h : ∀ p cap w', OwnK K enc w' base e (.slice p r.length cap) r → Below base w w' → w.grownBy w' v.ownBlock → wpList P ops Q rest (a.put o.dst (.slice p r.length cap)) w') :
    wpList P ops Q (o :: rest) a w := by
  obtain ⟨i, z, hi, hz, hs1, hby, hz1⟩ := E.hi
  refine wpList_append_own w hgd s x t ho base e i z K bytes E.ht hi hz hs1 hby hz1 hK v l.length ((l.flatMap enc).map oV) hs hown ⟨b, off, none⟩ m.length c ((m.flatMap enc).map oV) hx (by rw [List.length_map, flat_len enc m hk]) ?_ ?_ (by unfold maxLen; omega) hn hbase ?_
  · intro j u hj
    have h2 : ((⟨b, off, none⟩ : Addr).add j) = ⟨b, off + j, none⟩ := by unfold Addr.add; split <;> simp_all
    have hjl : j < m.length * K := by
      rcases Nat.lt_or_ge j (m.length * K) with h3 | h3
      · exact h3
      · rw [List.getElem?_eq_none (by rw [List.length_map, flat_len enc m hk]; exact h3)] at hj
        cases hj
    have hq : j / K < m.length := (Nat.div_lt_iff_lt_mul hK).2 hjl
    have hm : j % K < (enc m[j / K]).length := by rw [hk]; exact Nat.mod_lt _ hK
    have h3 := hat (j / K) hq (j % K) hm
    have h4 := flat_get enc m (fun x _ => hk x) (j / K) hq (j % K) hm
    have h5 : j / K * K + j % K = j := by rw [Nat.mul_comm]; exact Nat.div_add_mod j K
    rw [Nat.add_assoc, h5] at h3
    rw [h5] at h4
    rw [h2, h3, ← h4, ← hj, List.getElem?_map]
  · intro u hu
    obtain ⟨z, _, rfl⟩ := List.mem_map.1 hu
    exact z.2
  · intro v' w1 hown2 hg hnil
    have ho' : OwnK K enc w1 base e v' r := by
      unfold OwnK
      rw [← hr, List.length_append, List.flatMap_append, List.map_append]
      exact hown2
    obtain ⟨p, cap, rfl⟩ := ho'.slice
    exact h p cap w1 ho' ((Below.refl base w).grown hg hbase (fun k hk => (hown.lt k hk).1)) hg
end

/-- slices.Clone of classes -/
theorem cloneCls (w : World) (v : Value) (m : List Cl) (hr : RdK 4 clL w v m) (hm : 1 ≤ m.length ∧ m.length ≤ 4294967296) :
    Calls Tryz.prog 47 #[v] w fun e w' => ∃ p c, e = .returned (.slice p m.length c) ∧ OwnK 4 clL w' w.heap.size 80 (.slice p m.length c) m ∧ Below w.heap.size w w' := by
  obtain ⟨b, o, cap, rfl, hc, ha, hl⟩ : ∃ b o cap, v = .slice (some ⟨b, o, none⟩) m.length cap ∧ m.length ≤ cap ∧ (∀ i (h : i < m.length), At oV w b (o + i * 4) (clL m[i])) ∧ b < w.heap.size := by
    rcases hr with ⟨_, _, h0⟩ | h0
    · rw [h0] at hm; simp at hm
    · exact h0
  have hO : OwnK 4 clL (w.alloc (.cells #[] 80)) w.heap.size 80 (.slice (some ⟨w.heap.size, 0, none⟩) 0 0) ([] : List Cl) := OwnK.new0 w w.heap.size 80 (Nat.le_refl _)
  have hb := below_al (Below.refl w.heap.size w) (Nat.le_refl _) (.cells #[] 80)
  have ha2 : Hid (∀ i (h : i < m.length), At oV (w.alloc (.cells #[] 80)) b (o + i * 4) (clL m[i])) := Lib.hid fun i h => (ha i h).below hb hl
  have hb' := Lib.hid hb
  clear ha hb hr
  have q22 : ∀ (w : World) (a : Option Addr) (n c n' c' : Nat), (binOp .eql 22 (.slice a n c) (.slice none n' c')).run Tryz.prog w = .ok (.bool a.isNone) w := fun w a n c n' c' => Lib.run_eql_slice_nil w _ _ a n c n' c' Tryz.underlying22
  go_enter Tryz.func47, Tryz.ntmps47
  go_wp2_with (at_builtin; (with_reducible refine append_rdk eltCl (by decide) clL_len (.tmp 5) (.tmp 6) ?_ ?_ ?_ hO m b o cap ?_ ha2.out ?_ ?_ ?_ m ?_ ?_); rfl; rfl; rfl; rfl; (simp; omega); (simp; omega); (simp); rfl; intro p3 c3 w3 hO3 hB3 hG3)
  go_ret
  exact ⟨_, _, rfl, hO3, hb'.out.trans hB3⟩
/-- slices.Clone of flags -/
theorem cloneBools (w : World) (v : Value) (m : List Bool) (hr : Rd Value.bool w v m) (hm : 1 ≤ m.length ∧ m.length ≤ 4294967296) :
    Calls Tryz.prog 48 #[v] w fun e w' => ∃ p c, e = .returned (.slice p m.length c) ∧ Mem.Own Value.bool w' w.heap.size 4 (.slice p m.length c) m ∧ Below w.heap.size w w' := by
  obtain ⟨b, o, cap, rfl, hc, ha, hl⟩ : ∃ b o cap, v = .slice (some ⟨b, o, none⟩) m.length cap ∧ m.length ≤ cap ∧ At Value.bool w b o m ∧ b < w.heap.size := by
    rcases hr with ⟨_, _, h0⟩ | h0
    · rw [h0] at hm; simp at hm
    · exact h0
  have hO : Mem.Own Value.bool (w.alloc (.cells #[] 4)) w.heap.size 4 (.slice (some ⟨w.heap.size, 0, none⟩) 0 0) ([] : List Bool) := Own.new w _ w.heap.size (Nat.le_refl _) rfl (by simp)
  have hR2 : Rd Value.bool (w.alloc (.cells #[] 4)) (.slice (some ⟨b, o, none⟩) m.length cap) m := Rd.alloc (Or.inr ⟨b, o, cap, rfl, hc, ha, hl⟩) _
  have hb' := Lib.hid (below_al (Below.refl w.heap.size w) (Nat.le_refl _) (.cells #[] 4))
  clear ha hr
  have q22 : ∀ (w : World) (a : Option Addr) (n c n' c' : Nat), (binOp .eql 24 (.slice a n c) (.slice none n' c')).run Tryz.prog w = .ok (.bool a.isNone) w := fun w a n c n' c' => Lib.run_eql_slice_nil w _ _ a n c n' c' Tryz.underlying24
  go_enter Tryz.func48, Tryz.ntmps48
  go_wp2_with (at_builtin; (with_reducible refine append_rd eltBo (.tmp 5) (.tmp 6) ?_ ?_ bV_one' ?_ hO m _ ?_ hR2 ?_ ?_ ?_ m ?_ ?_); rfl; rfl; rfl; rfl; (simp; omega); (simp; omega); (simp); rfl; intro p3 c3 w3 hO3 hB3 hG3)
  go_ret
  exact ⟨_, _, rfl, hO3, hb'.out.trans hB3⟩
end Go.Proofs.YtgflelodpcgmbaaGreatDoor
/- More of a transducer that a function is making: rows of moves filled in place. -/
namespace Go.Proofs.YtgflelodpcgmbaaGreatDoor
open Go Go.RowKit Mem
set_option maxRecDepth 100000

section
variable {w w' : World} {base nt : Nat} {vc vm vf ve : OC} {cls : List Cl} {us : List OC} {rows : List (List Mv)} {fin : List Bool} {ends : List (List UInt8)}
theorem TrB.rdAfter (h : TrB w base nt vc vm vf ve cls us rows fin ends) {row : Option Nat} (hg : w.grownBy w' row) (hr : IsT w row 53) (hne : some nt ≠ row) : TrAt w' (.agg #[oV vc, oV vm, oV vf, oV ve]) ⟨cls, rows, fin, ends⟩ :=
  TrB.rd (nt := nt) ⟨h.box.grown hg hne, h.c.offT hg hr (by decide), Own_offT h.o hg hr (by decide), h.m.offT hg hr (by decide) (by decide), Own_offT h.f hg hr (by decide), Lvl_offT h.e hg hr (by decide) (by decide), Nat.le_trans h.lo hg.size⟩
theorem trB_new {X Y : World} {base n4 n : Nat} {vc vf ve : OC} {cls : List Cl} {fin : List Bool} (hZ : Row oV X n4 53 [on, on, on, on]) (hc : OwnK 4 clL X base 80 (oV vc) cls) (hf : Mem.Own Value.bool X base 4 (oV vf) fin) (hv : Mem.Own oV X base 29 (oV ve) (List.replicate n on))
    (hs : Row oV Y n4 53 [vc, on, vf, ve]) (hG : X.grownBy Y (some n4)) (hlo : base ≤ X.heap.size) : TrB Y base n4 vc on vf ve cls [] [] fin (List.replicate n []) := by
  have hT := Row_isT hZ
  refine ⟨hs, hc.offT hG hT (by decide), Own.nil _ _ _, ⟨rfl, fun i h => by cases h⟩, Own_offT hf hG hT (by decide), ?_, Nat.le_trans hlo hG.size⟩
  refine ⟨List.replicate n on, by simp, Own_offT hv hG hT (by decide), fun i h h2 => ?_⟩
  simp only [List.getElem_replicate]
  exact Own.nil _ _ _
end
theorem mv_set1 (z : Int) : ∀ (xs : List (Int × OC)) (m : Nat) (h : m < xs.length), (xs.flatMap mvL).set (m * 2) (oi z) = (xs.set m (z, xs[m].2)).flatMap mvL
  | x :: xs, 0, _ => rfl
  | x :: xs, m + 1, h => by
    have ih := mv_set1 z xs m (by simpa using h)
    rw [List.flatMap_cons, List.set_cons_succ, List.flatMap_cons, List.getElem_cons_succ, ← ih, Nat.succ_mul]
    rfl
theorem mv_set2 (u : OC) : ∀ (xs : List (Int × OC)) (m : Nat) (h : m < xs.length), (xs.flatMap mvL).set (m * 2 + 1) u = (xs.set m (xs[m].1, u)).flatMap mvL
  | x :: xs, 0, _ => rfl
  | x :: xs, m + 1, h => by
    have ih := mv_set2 u xs m (by simpa using h)
    rw [List.flatMap_cons, List.set_cons_succ, List.flatMap_cons, List.getElem_cons_succ, ← ih, Nat.succ_mul]
    rfl
theorem mv_get1 (xs : List (Int × OC)) (m : Nat) (h : m < xs.length) : (xs.flatMap mvL)[m * 2]? = some (oi xs[m].1) := by
  have := flat_get mvL xs (fun x _ => mvL_len x) m h 0 (by show 0 < 2; omega)
  rw [Nat.add_zero] at this
  exact this
theorem mv_get2 (xs : List (Int × OC)) (m : Nat) (h : m < xs.length) : (xs.flatMap mvL)[m * 2 + 1]? = some xs[m].2 := by
  have := flat_get mvL xs (fun x _ => mvL_len x) m h 1 (by show 1 < 2; omega)
  exact this
theorem made_mv (n : Nat) : madeCells #[.int .i64 0, .slice none 0 0] (n * 2) = (((List.replicate n ((0 : Int), on)).flatMap mvL).map oV).toArray := by
  have h : ∀ n, (List.range (n * 2)).map (fun i => (#[Value.int .i64 0, .slice none 0 0] : Array Value)[i % 2]!) = ((List.replicate n ((0 : Int), on)).flatMap mvL).map oV := by
    intro n
    induction n with
    | zero => rfl
    | succ n ih =>
      rw [Nat.succ_mul, List.range_succ, List.range_succ, List.map_append, List.map_append, ih, List.replicate_succ', List.flatMap_append, List.map_append, List.append_assoc]
      congr 1
      have e0 : n * 2 % 2 = 0 := by omega
      have e1 : (n * 2 + 1) % 2 = 1 := by omega
      simp only [List.map_cons, List.map_nil, e0, e1]
      rfl
  unfold madeCells
  apply Array.toList_inj.1
  simpa using h n
/-- make of a row of moves -/
theorem make_mv (w : World) (n : Nat) (hn : n ≤ 4294967296) : (Instr.makeSlice 95 (.int .i64 (n : Int)) (.int .i64 (n : Int))).run Tryz.prog w = .ok (.slice (some ⟨w.heap.size, 0, none⟩) n n) (w.alloc (.cells (((List.replicate n ((0 : Int), on)).flatMap mvL).map oV).toArray 98)) := by
  obtain ⟨i, z, hi, hz, hs, hb, _⟩ := eltMv.hi
  have hzz : z = .agg #[.int .i64 0, .slice none 0 0] := by
    have h : (Tryz.prog.info? 98).bind (·.zero) = some (.agg #[.int .i64 0, .slice none 0 0]) := by kernel_rfl
    rw [hi] at h
    exact Option.some.inj (hz.symm.trans h)
  have h := run_make w 95 98 i z Tryz.underlying95 hi hz .i64 .i64 (n : Int) (n : Int) (by omega) (Int.le_refl _) (by rw [hb]; omega) (by omega)
  rw [Int.toNat_natCast, hs, hzz] at h
  rw [h]
  show Result.ok _ (w.alloc (.cells (madeCells #[.int .i64 0, .slice none 0 0] (n * 2)) _)) = _
  rw [made_mv]
/-- make of a row of byte slices -/
theorem make_sb (w : World) (n : Nat) (hn : n ≤ 4294967296) : (Instr.makeSlice 43 (.int .i64 (n : Int)) (.int .i64 (n : Int))).run Tryz.prog w = .ok (.slice (some ⟨w.heap.size, 0, none⟩) n n) (w.alloc (.cells ((List.replicate n on).map oV).toArray 29)) := by
  obtain ⟨i, z, hi, hz, hs, hb, _⟩ := eltSB.hi
  have hzz : z = .slice none 0 0 := by
    have h : (Tryz.prog.info? 29).bind (·.zero) = some (.slice none 0 0) := by kernel_rfl
    rw [hi] at h
    exact Option.some.inj (hz.symm.trans h)
  have h := run_make w 43 29 i z Tryz.underlying43 hi hz .i64 .i64 (n : Int) (n : Int) (by omega) (Int.le_refl _) (by rw [hb]; omega) (by omega)
  rw [Int.toNat_natCast, hs, hzz, Nat.mul_one] at h
  rw [h]
  show Result.ok _ (w.alloc (.cells (madeCells #[.slice none 0 0] n) _)) = _
  have e : madeCells #[.slice none 0 0] n = ((List.replicate n on).map oV).toArray := by
    apply Array.toList_inj.1
    rw [toList_madeCells_one, List.map_replicate]
    rfl
  rw [e]
/-- a whole block of moves is a row that the function has made -/
theorem OwnK.ofRow {w : World} {base b : Nat} {xs : List (Int × OC)} (h : Row oV w b 98 (xs.flatMap mvL)) (hb : base ≤ b) (hm : xs.length ≤ maxLen) : OwnK 2 mvL w base 98 (.slice (some ⟨b, 0, none⟩) xs.length xs.length) xs := by
  refine ⟨by rw [List.length_map, flat_len mvL xs mvL_len], .inr ⟨b, xs.length, _, rfl, hb, h, Nat.le_refl _, hm, ?_, ?_⟩⟩
  · simp [flat_len mvL xs mvL_len]
  · rw [List.take_of_length_le]
    simp [flat_len mvL xs mvL_len]
/-- the moves done so far -/
def RowDone (w : World) (base : Nat) (xs : List (Int × OC)) (row : List Ce) (m : Nat) : Prop := ∀ i (h : i < xs.length) (h2 : i < row.length), i < m → xs[i].1 = row[i].mv.tgt ∧ OwnK 2 piL w base 100 (oV xs[i].2) row[i].mv.out
theorem RowDone.step {A B : World} {base m : Nat} {xs : List (Int × OC)} {row : List Ce} (h : RowDone A base xs row m) (hp : ∀ v l, OwnK 2 piL A base 100 v l → OwnK 2 piL B base 100 v l) {t : Int} {u : OC} (hm : m < row.length) (ht : t = row[m].mv.tgt) (hu : OwnK 2 piL B base 100 (oV u) row[m].mv.out) : RowDone B base (xs.set m (t, u)) row (m + 1) := by
  intro i h1 h2 h3
  rw [List.length_set] at h1
  by_cases hi : i = m
  · subst hi
    rw [List.getElem_set_self]
    exact ⟨ht, hu⟩
  · rw [List.getElem_set_ne (by omega)]
    have := h i h1 h2 (by omega)
    exact ⟨this.1, hp _ _ this.2⟩
theorem RowDone.mono {A B : World} {base m : Nat} {xs : List (Int × OC)} {row : List Ce} (h : RowDone A base xs row m) (hp : ∀ v l, OwnK 2 piL A base 100 v l → OwnK 2 piL B base 100 v l) : RowDone B base xs row m := fun i a b c => ⟨(h i a b c).1, hp _ _ (h i a b c).2⟩
/-- one piece of its own -/
theorem piece_new (w : World) (base : Nat) (p : Pc) (hb : base ≤ w.heap.size) : OwnK 2 piL (w.alloc (.cells (piA p) 100)) base 100 (.slice (some ⟨w.heap.size, 0, none⟩) 1 1) [p] := by
  have h := World.ownsRow_lit (base := base) (size := 2) (e := 100) w (piA p) 1 hb (by unfold maxLen; omega) rfl
  exact h
end Go.Proofs.YtgflelodpcgmbaaGreatDoor
/- append of a struct as one step of a region that draws its order; a made row that grows. -/
namespace Go.Proofs.YtgflelodpcgmbaaGreatDoor
open Go Go.RowKit Mem
set_option maxRecDepth 100000

section
variable {α : Type} {KK : Nat} {enc : α → List OC} {w w' : World} {base : Nat} {e : TypeId} {v : Value} {l : List α}
variable {P : Program} {ops : Array Oper} {rest : List Oper} {o : Oper} {a : Act} {Q : Exit → Act → World → Prop}
theorem step_append_k {K : Act → World → Prop} {X : Prop} {t : TypeId} {bytes : Nat} (E : EltK P t e KK bytes) (h0 : 0 < KK) (hk : ∀ x, (enc x).length = KK) (s x : Operand) (T : TypeId) (hgd : o.guard = none) (ho : o.op = .call { callee := .builtin .append, args := #[s, x], argTypes := #[t, T] }) (hT : T = t)
    (hs : a.eval s = v) (hown : OwnK KK enc w base e v l) (y : α) (C : Array Value) (hC : C = ((enc y).map oV).toArray) (e1 : TypeId) (hx : a.eval x = .slice (some ⟨w.heap.size, 0, none⟩) 1 1)
    (hn : (l.length + 1) * bytes ≤ 140737488355328) (hn2 : l.length + 1 ≤ 140737488355328) (hbase : base ≤ w.heap.size) (r : List α) (hr : l ++ [y] = r)
    (hK : ∀ p cap w', OwnK KK enc w' base e (.slice p r.length cap) r → (w.alloc (.cells C e1)).grownBy w' v.ownBlock → K (a.put o.dst (.slice p r.length cap)) w') :
    if Region.wanted o (yielded ops a.tmps) = true then Oper.wp P o a (w.alloc (.cells C e1)) K Q else X := by
  subst hT hC
  have hw : Region.wanted o (yielded ops a.tmps) = true := by simp [Region.wanted, hgd]
  rw [if_pos hw]
  obtain ⟨i, z, hi, hz, hs1, hby, hz1⟩ := E.hi
  have hown' : (w.alloc (.cells ((enc y).map oV).toArray e1)).ownsRow base e KK v l.length ((l.flatMap enc).map oV) := World.ownsRow.alloc hown _
  have hrow : Row oV (w.alloc (.cells ((enc y).map oV).toArray e1)) w.heap.size e1 (enc y) := Row.new _ _ rfl
  obtain ⟨v', w', hrun, h2, h3, _, _⟩ := run_append_own_at (P := P) (w.alloc (.cells ((enc y).map oV).toArray e1)) base T o.type e i z KK bytes E.ht hi hz hs1 hby hz1 h0 v l.length ((l.flatMap enc).map oV) hown' ⟨w.heap.size, 0, none⟩ 1 1 ((enc y).map oV) (by simp [hk]) (by
    intro j u hj
    have h2 : ((⟨w.heap.size, 0, none⟩ : Addr).add j) = ⟨w.heap.size, j, none⟩ := by unfold Addr.add; split <;> simp_all
    rw [h2, hrow.cell?, ← hj, List.getElem?_map]) (by
    intro u hu
    obtain ⟨z, _, rfl⟩ := List.mem_map.1 hu
    exact z.2) (by unfold maxLen; omega) hn (by simp; omega)
  have ho' : OwnK KK enc w' base e v' r := by
    unfold OwnK
    rw [← hr, List.length_append, List.flatMap_append, List.map_append]
    simpa using h2
  obtain ⟨p, cap, rfl⟩ := ho'.slice
  unfold Oper.wp
  simp only [execOp, ho, resolve, invoke, builtin, Sem.run_bind, Sem.run_pure, Result.andThen_ok, List.map_toArray, List.map_cons, List.map_nil, hs, hx, hrun]
  exact hK p cap w' ho' h3
end
/-- a row of moves with one more -/
theorem RowAt.more {A w3 : World} {base : Nat} {u u3 : OC} {ms : List Mv} {xs : List (Int × OC)} (h1 : xs.length = ms.length) (h3 : ∀ i (h : i < xs.length) (h2 : i < ms.length), xs[i].1 = ms[i].tgt ∧ OwnK 2 piL A base 100 (oV xs[i].2) ms[i].out)
    (hA : OwnK 2 mvL A base 98 (oV u) xs) (o : Obj) {x : Int × OC} {mv : Mv} (hO : OwnK 2 mvL w3 base 98 (oV u3) (xs ++ [x])) (hG : (A.alloc o).grownBy w3 (oV u).ownBlock) (ht : x.1 = mv.tgt) (hu : OwnK 2 piL A base 100 (oV x.2) mv.out) : RowAt w3 base u3 (ms ++ [mv]) := by
  have ha := below_al (Below.refl A.heap.size A) (Nat.le_refl _) o
  have hT := (hA.below' ha).isT
  refine ⟨xs ++ [x], by rw [List.length_append, List.length_append, h1]; rfl, hO, fun i a b => ?_⟩
  rcases Nat.lt_or_ge i xs.length with hi | hi
  · rw [List.getElem_append_left hi, List.getElem_append_left (by rw [← h1]; exact hi)]
    have h := h3 i hi (by rw [← h1]; exact hi)
    exact ⟨h.1, (h.2.below' ha).offT hG hT (by decide)⟩
  · have hie : i = xs.length := by simp at a; omega
    subst hie
    have e1 : (xs ++ [x])[xs.length]'a = x := by simp
    have e2 : (ms ++ [mv])[xs.length]'b = mv := by simp [h1]
    rw [e1, e2]
    exact ⟨ht, (hu.below' ha).offT hG hT (by decide)⟩
theorem RowAt.start (w : World) (base : Nat) (hb : base ≤ w.heap.size) : RowAt (w.alloc (.cells #[] 98)) base (slO (some ⟨w.heap.size, 0, none⟩) 0 0) [] := ⟨[], rfl, OwnK.new0 w base 98 hb, fun i h => by cases h⟩
end Go.Proofs.YtgflelodpcgmbaaGreatDoor
