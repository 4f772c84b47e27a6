/- A program variable: what line has made, changed in places. -/
import Derived.Test.YtllomcmhkocdfaaGreatDoorMSts
import Derived.Test.YtllomcmhkocdfaaGreatDoorMRunP
import Derived.Test.YtllomcmhkocdfaaGreatDoorMStep
namespace Go.Proofs.YtllomcmhkocdfaaGreatDoor
open Go Go.RowKit Mem
set_option maxRecDepth 100000

/-- the variable pb holds a program: its statements L lie in the block g, what they hold lay in w0 -/
structure PV (w0 w : World) (pb g c : Nat) (bv : OC) (L : List St) : Prop where
  row : Row oV w pb 28 [slOf g L.length c, bv]
  sts : Sts w g L
  sd : ∀ s ∈ L, StD w0 s
  bel : Below w0.heap.size w0 w
  lo : w0.heap.size ≤ g ∧ w0.heap.size ≤ pb
  le : L.length ≤ c
  ne : g ≠ pb
/-- blocks in memory, all of them above N -/
def BlM (N : Nat) (w : World) (b : Nat) (B : List (List Int)) : Prop := N ≤ b ∧ b < w.heap.size ∧ ∀ j l, B[j]? = some l → ∃ r, w.cell? ⟨b, j, none⟩ = some (.slice (some ⟨r, 0, none⟩) l.length l.length) ∧ N ≤ r ∧ r < w.heap.size ∧ At iV w r 0 l
section
variable {w0 w w' : World} {pb g c b N : Nat} {bv : OC} {L : List St} {B : List (List Int)}
theorem PV.keep (h : PV w0 w pb g c bv L) (hb : Below w.heap.size w w') : PV w0 w' pb g c bv L :=
  ⟨h.row.below hb h.row.lt, h.sts.below hb h.sts.lt, h.sd, h.bel.trans (hb.mono h.bel.size), h.lo, h.le, h.ne⟩
theorem PV.setT (h : PV w0 w pb g c bv L) (j : Nat) (s : St) (k : Int) (hj : L[j]? = some s) : PV w0 (w.setCell ⟨g, j * 33 + 31, none⟩ (.int .i64 k)) pb g c bv (L.set j { s with t := k }) := by
  refine ⟨?_, h.sts.set j s _ 31 (oi k) hj (by decide) rfl, fun s' hs' => ?_, below_set h.bel _ h.lo.1 _, h.lo, by rw [List.length_set]; exact h.le, h.ne⟩
  · rw [List.length_set]; exact h.row.set_other (Ne.symm h.ne) _ _
  · rcases List.mem_or_eq_of_mem_set hs' with h1 | h1
    · exact h.sd s' h1
    · subst h1
      have h2 := h.sd s (List.mem_of_getElem? hj)
      exact ⟨h2.b, h2.old, h2.new, h2.ys, h2.gl⟩
theorem PV.setE (h : PV w0 w pb g c bv L) (j : Nat) (s : St) (k : Int) (hj : L[j]? = some s) : PV w0 (w.setCell ⟨g, j * 33 + 32, none⟩ (.int .i64 k)) pb g c bv (L.set j { s with e := k }) := by
  refine ⟨?_, h.sts.set j s _ 32 (oi k) hj (by decide) rfl, fun s' hs' => ?_, below_set h.bel _ h.lo.1 _, h.lo, by rw [List.length_set]; exact h.le, h.ne⟩
  · rw [List.length_set]; exact h.row.set_other (Ne.symm h.ne) _ _
  · rcases List.mem_or_eq_of_mem_set hs' with h1 | h1
    · exact h.sd s' h1
    · subst h1
      have h2 := h.sd s (List.mem_of_getElem? hj)
      exact ⟨h2.b, h2.old, h2.new, h2.ys, h2.gl⟩
theorem PV.setB (h : PV w0 w pb g c bv L) (bv' : OC) : PV w0 (w.setCell ⟨pb, 1, none⟩ bv'.1) pb g c bv' L :=
  ⟨h.row.set 1 bv', h.sts.block (Below.heap_setCell _ _ _ _ h.ne), h.sd, below_set h.bel _ h.lo.2 _, h.lo, h.le, h.ne⟩
/-- the cell of a statement's block -/
theorem PV.cellT (h : PV w0 w pb g c bv L) (j : Nat) (s : St) (hj : L[j]? = some s) : w.cell? ⟨g, j * 33 + 31, none⟩ = some (.int .i64 s.t) := by
  rw [h.sts.at j s hj 31 (by rw [St.cs_length]; decide)]; rfl
theorem PV.cellE (h : PV w0 w pb g c bv L) (j : Nat) (s : St) (hj : L[j]? = some s) : w.cell? ⟨g, j * 33 + 32, none⟩ = some (.int .i64 s.e) := by
  rw [h.sts.at j s hj 32 (by rw [St.cs_length]; decide)]; rfl
theorem BlM.keep (h : BlM N w b B) (hb : Below w.heap.size w w') : BlM N w' b B :=
  ⟨h.1, Nat.lt_of_lt_of_le h.2.1 hb.size, fun j l hj => by
    obtain ⟨r, h1, h2, h3, h4⟩ := h.2.2 j l hj
    exact ⟨r, (hb.cell (p := ⟨b, j, none⟩) h.2.1).trans h1, h2, Nat.lt_of_lt_of_le h3 hb.size, h4.below hb h3⟩⟩
theorem BlM.set (h : BlM N w b B) (x i : Nat) (v : Value) (hx : x < N) : BlM N (w.setCell ⟨x, i, none⟩ v) b B :=
  ⟨h.1, by simpa using h.2.1, fun j l hj => by
    obtain ⟨r, h1, h2, h3, h4⟩ := h.2.2 j l hj
    refine ⟨r, (World.cell?_of_block (a := ⟨b, j, none⟩) (Below.heap_setCell _ _ _ _ (by have := h.1; show b ≠ x; omega))).trans h1, h2, by simpa using h3, fun k hk => (World.cell?_of_block (a := ⟨r, 0 + k, none⟩) (Below.heap_setCell _ _ _ _ (by show r ≠ x; omega))).trans (h4 k hk)⟩⟩
/-- the variable that holds what line has made -/
theorem PV.made {wl w1 : World} {vs : OC} (hne : L ≠ []) (hsd : ∀ s ∈ L, StD wl s) (hb1 : Below wl.heap.size wl w1) (ho : w1.ownsRow (wl.heap.size + 1) 45 33 vs.1 L.length (stCells (L.map noB))) :
    ∃ g c, vs = slOf g L.length c ∧ ∀ w2 pb bv, Row oV w2 pb 28 [slOf g L.length c, bv] → Below w1.heap.size w1 w2 → w1.heap.size ≤ pb → PV wl w2 pb g c bv (L.map noB) := by
  have hlen : L.length = (L.map noB).length := (List.length_map noB).symm
  obtain ⟨v, hv⟩ := vs
  have ho1 := ho
  rcases ho.2 with ⟨_, h0⟩ | ⟨g, cap, cur, he, hg, hcur, hc, _⟩
  · exact absurd (List.length_eq_zero_iff.1 h0) hne
  · simp only at he
    subst he
    refine ⟨g, cap, rfl, fun w2 pb bv hr hb hpb => ?_⟩
    rw [hlen] at ho1
    have hgl := (Array.getElem?_eq_some_iff.1 hcur).1
    refine ⟨by rw [← hlen]; exact hr, (Sts.of_own ho1).below hb hgl, ?_, hb1.trans (hb.mono hb1.size), ⟨by omega, Nat.le_trans hb1.size hpb⟩, by rw [← hlen]; exact hc, by omega⟩
    intro s hs
    obtain ⟨s', hs', rfl⟩ := List.mem_map.1 hs
    have := hsd s' hs'
    exact ⟨this.b, this.old, this.new, this.ys, this.gl⟩
/-- two blocks as a literal -/
theorem blM2 (w : World) (l0 l1 : List Int) : ∃ W, ((w.alloc (.cells (l0.map iV).toArray 3)).alloc (.cells (l1.map iV).toArray 3)).alloc (.cells #[.slice (some ⟨w.heap.size, 0, none⟩) l0.length l0.length, .slice (some ⟨w.heap.size + 1, 0, none⟩) l1.length l1.length] 39) = W ∧ Below w.heap.size w W ∧ BlM w.heap.size W (w.heap.size + 2) [l0, l1] := by
  obtain ⟨W, hW, h0, h1, h2, hs, hB⟩ : ∃ W, ((w.alloc (.cells (l0.map iV).toArray 3)).alloc (.cells (l1.map iV).toArray 3)).alloc (.cells #[.slice (some ⟨w.heap.size, 0, none⟩) l0.length l0.length, .slice (some ⟨w.heap.size + 1, 0, none⟩) l1.length l1.length] 39) = W ∧ Row iV W w.heap.size 3 l0 ∧ Row iV W (w.heap.size + 1) 3 l1 ∧ Row oV W (w.heap.size + 2) 39 [slOf w.heap.size l0.length l0.length, slOf (w.heap.size + 1) l1.length l1.length] ∧ W.heap.size = w.heap.size + 3 ∧ Below w.heap.size w W := by
    refine ⟨_, rfl, ?_, ?_, ?_, by simp, below_al (below_al (below_al (Below.refl _ _) _) _) _⟩
    all_goals repeat (first | (refine heap_new' _ _ _ ?_; (simp; done)) | (refine (Below.heap_alloc _ _ _ ?_).trans ?_; · (simp <;> omega)))
  refine ⟨W, hW, hB, by omega, by omega, fun j l hj => ?_⟩
  match j, hj with
  | 0, hj => cases hj; exact ⟨w.heap.size, by rw [h2.cell?]; rfl, Nat.le_refl _, by omega, h0.at⟩
  | 1, hj => cases hj; exact ⟨w.heap.size + 1, by rw [h2.cell?]; rfl, by omega, by omega, h1.at⟩
  | j + 2, hj => simp at hj
/-- three blocks as a literal -/
theorem blM3 (w : World) (l0 l1 l2 : List Int) : ∃ W, (((w.alloc (.cells (l0.map iV).toArray 3)).alloc (.cells (l1.map iV).toArray 3)).alloc (.cells (l2.map iV).toArray 3)).alloc (.cells #[.slice (some ⟨w.heap.size, 0, none⟩) l0.length l0.length, .slice (some ⟨w.heap.size + 1, 0, none⟩) l1.length l1.length, .slice (some ⟨w.heap.size + 2, 0, none⟩) l2.length l2.length] 39) = W ∧ Below w.heap.size w W ∧ BlM w.heap.size W (w.heap.size + 3) [l0, l1, l2] := by
  obtain ⟨W, hW, h0, h1, h2, h3, hs, hB⟩ : ∃ W, (((w.alloc (.cells (l0.map iV).toArray 3)).alloc (.cells (l1.map iV).toArray 3)).alloc (.cells (l2.map iV).toArray 3)).alloc (.cells #[.slice (some ⟨w.heap.size, 0, none⟩) l0.length l0.length, .slice (some ⟨w.heap.size + 1, 0, none⟩) l1.length l1.length, .slice (some ⟨w.heap.size + 2, 0, none⟩) l2.length l2.length] 39) = W ∧ Row iV W w.heap.size 3 l0 ∧ Row iV W (w.heap.size + 1) 3 l1 ∧ Row iV W (w.heap.size + 2) 3 l2 ∧ Row oV W (w.heap.size + 3) 39 [slOf w.heap.size l0.length l0.length, slOf (w.heap.size + 1) l1.length l1.length, slOf (w.heap.size + 2) l2.length l2.length] ∧ W.heap.size = w.heap.size + 4 ∧ Below w.heap.size w W := by
    refine ⟨_, rfl, ?_, ?_, ?_, ?_, by simp, below_al (below_al (below_al (below_al (Below.refl _ _) _) _) _) _⟩
    all_goals repeat (first | (refine heap_new' _ _ _ ?_; (simp; done)) | (refine (Below.heap_alloc _ _ _ ?_).trans ?_; · (simp <;> omega)))
  refine ⟨W, hW, hB, by omega, by omega, fun j l hj => ?_⟩
  match j, hj with
  | 0, hj => cases hj; exact ⟨w.heap.size, by rw [h3.cell?]; rfl, Nat.le_refl _, by omega, h0.at⟩
  | 1, hj => cases hj; exact ⟨w.heap.size + 1, by rw [h3.cell?]; rfl, by omega, by omega, h1.at⟩
  | 2, hj => cases hj; exact ⟨w.heap.size + 2, by rw [h3.cell?]; rfl, by omega, by omega, h2.at⟩
  | j + 3, hj => simp at hj
theorem Mem.Rd.keepRow {α : Type} {f : α → Value} {r : Nat} {t : TypeId} {R : List OC} {v : Value} {l : List α} (h : Rd f w v l) (hr : Row oV w r t R) (hR : ∀ x ∈ R, ∀ y, oV x ≠ f y) (hg : w.grownBy w' (some r)) : Rd f w' v l := by
  rcases h with hn | ⟨b, o, cap, he, hc, ha, hlt⟩
  · exact .inl hn
  · refine .inr ⟨b, o, cap, he, hc, ?_, Nat.lt_of_lt_of_le hlt hg.size⟩
    intro i hi
    refine (World.cell?_of_block (a := ⟨b, o + i, none⟩) (hg.block b hlt ?_)).trans (ha i hi)
    intro e
    injection e with e
    subst e
    have h7 := ha i hi
    have h8 := hr.cell? (o + i)
    rw [h8] at h7
    rw [List.getElem?_eq_getElem hi] at h7
    rcases Nat.lt_or_ge (o + i) R.length with hk | hk
    · rw [List.getElem?_eq_getElem hk] at h7
      simp only [Option.map_some, Option.some.injEq] at h7
      exact hR _ (List.getElem_mem hk) _ h7
    · rw [List.getElem?_eq_none (by simpa using hk)] at h7; cases h7
/-- the program, after a variable of the caller's has been written -/
theorem PV.pgmRow (h : PV w0 w pb g c bv L) (hb : BlM N w b B) {r : Nat} (hr : Row oV w r 28 [on, on]) (h0 : r < w0.heap.size) (hN : r < N) (hg : w.grownBy w' (some r)) : PgM w' ⟨some ⟨g, 0, none⟩, L.length, c⟩ ⟨some ⟨b, 0, none⟩, B.length, B.length⟩ L B := by
  have h8 : ∀ x ∈ [on, on], ∀ y, oV x ≠ u8V y := by
    intro x hx y e
    simp only [List.mem_cons, List.not_mem_nil, or_false, or_self] at hx
    subst hx; cases e
  have hi : ∀ x ∈ [on, on], ∀ y, oV x ≠ iV y := by
    intro x hx y e
    simp only [List.mem_cons, List.not_mem_nil, or_false, or_self] at hx
    subst hx; cases e
  have hl := h.lo.1
  refine ⟨rfl, rfl, h.le, Nat.le_refl _, .inr ⟨g, 0, rfl, Nat.lt_of_lt_of_le h.sts.lt hg.size, fun j s hj => ?_⟩, fun s hs => ?_, .inr ⟨b, 0, rfl, Nat.lt_of_lt_of_le hb.2.1 hg.size, fun j l hj => ?_⟩⟩
  · rw [Nat.zero_add]; exact (h.sts.at j s hj).grown hg h.sts.lt (by intro e; injection e with e; omega)
  · have hd := (h.sd s hs).below h.bel
    exact ⟨hd.b.keepRow hr h8 hg, hd.old.keepRow hr h8 hg, hd.new.keepRow hr h8 hg, hd.ys.keepRow hr hi hg, fun hl => by
      have hgl := hd.gl hl
      obtain ⟨m, hm⟩ := hgl
      have h1 : Rd iV w (.slice (some ⟨0, 0, none⟩) 1 1) [m] := .inr ⟨0, 0, 1, rfl, Nat.le_refl _, fun i hi => by
        match i, hi with
        | 0, _ => exact hm
        | i + 1, hi => simp at hi, Gl.pos ⟨m, hm⟩⟩
      rcases h1.keepRow hr hi hg with ⟨_, _, h2⟩ | ⟨b2, o2, c2, he, _, ha, _⟩
      · cases h2
      · cases he
        exact ⟨m, ha 0 (by simp)⟩⟩
  · obtain ⟨q, h1, h2, h3, h4⟩ := hb.2.2 j l hj
    have hbN := hb.1
    exact ⟨_, by rw [Nat.zero_add]; exact (World.cell?_of_block (a := ⟨b, j, none⟩) (hg.block b hb.2.1 (by intro e; injection e with e; omega))).trans h1, .inr ⟨q, 0, l.length, rfl, Nat.le_refl _, h4.grown hg h3 (by intro e; injection e with e; omega), Nat.lt_of_lt_of_le h3 hg.size⟩⟩
end
end Go.Proofs.YtllomcmhkocdfaaGreatDoor

/- The law's guard: a line whose first statement's failure rejects with the code 7. -/
namespace Go.Proofs.YtllomcmhkocdfaaGreatDoor
open Go Go.RowKit Mem
set_option maxRecDepth 100000

theorem ownsRow_set {w : World} {base : Nat} {e : TypeId} {size : Nat} {g n c : Nat} {xs : List Value} (h : w.ownsRow base e size (.slice (some ⟨g, 0, none⟩) n c) n xs) (i : Nat) (v : Value) : (w.setCell ⟨g, i, none⟩ v).ownsRow base e size (.slice (some ⟨g, 0, none⟩) n c) n (xs.set i v) := by
  refine ⟨by rw [List.length_set]; exact h.1, ?_⟩
  rcases h.2 with ⟨h0, _⟩ | ⟨g', cap, cur, he, hb, hg, hc, hm, hs, ht⟩
  · cases h0
  · cases he
    refine .inr ⟨g, c, cur.setIfInBounds i v, rfl, hb, ?_, hc, hm, by rw [Array.size_setIfInBounds]; exact hs, ?_⟩
    · simp only [World.setCell]
      rw [Array.getElem?_modify, if_pos rfl, hg]
      rfl
    · rw [Array.toList_setIfInBounds, List.take_set, ht]
theorem stCells_set0 (s : St) (L : List St) (k : Int) : (stCells (s :: L)).set 32 (.int .i64 k) = stCells ({ s with e := k } :: L) := by
  have h1 : ∀ s : St, stCells (s :: L) = s.cs.map oV ++ stCells L := fun s => by simp [stCells]
  rw [h1, h1, List.set_append_left _ _ (by rw [List.length_map, St.cs_length]; decide)]
  rfl
theorem eltSI : Elt Tryz.prog 26 39 24 := Elt.mk' (z := .slice none 0 0) Tryz.underlying26 (by kernel_rfl) rfl
theorem ne_own {a b o n c : Nat} (h : a ≠ b) : some a ≠ (Value.slice (some ⟨b, o, none⟩) n c).ownBlock := fun e => h (Option.some.inj e)
theorem own_ne_row {α : Type} {f : α → Value} {w : World} {base : Nat} {e : TypeId} {size : Nat} {v : Value} {n : Nat} {xs : List Value} (h : w.ownsRow base e size v n xs) {b : Nat} {t : TypeId} {l : List α} (hr : Row f w b t l) (hne : e ≠ t) : ∀ g, v.ownBlock = some g → g ≠ b := by
  rintro g hg rfl
  rcases h.2 with ⟨h0, _⟩ | ⟨g', cap, cur, he, _, hc, _⟩
  · rw [h0] at hg; cases hg
  · rw [he] at hg
    cases hg
    unfold Row at hr
    rw [hr] at hc
    cases hc
    exact hne rfl
theorem own_ne_own {w : World} {base base2 : Nat} {e e2 : TypeId} {size size2 : Nat} {v v2 : Value} {n n2 : Nat} {xs xs2 : List Value} (h : w.ownsRow base e size v n xs) (h2 : w.ownsRow base2 e2 size2 v2 n2 xs2) (hne : e ≠ e2) : ∀ g, v.ownBlock = some g → ∀ g2, v2.ownBlock = some g2 → g ≠ g2 := by
  rintro g hg g2 hg2 rfl
  rcases h.2 with ⟨h0, _⟩ | ⟨g', cap, cur, he, _, hc, _⟩
  · rw [h0] at hg; cases hg
  · rcases h2.2 with ⟨h0, _⟩ | ⟨g'', cap', cur', he', _, hc', _⟩
    · rw [h0] at hg2; cases hg2
    · rw [he] at hg
      rw [he'] at hg2
      cases hg
      cases hg2
      rw [hc] at hc'
      cases hc'
      exact hne rfl
def gS (s0 : St) (L : List St) : List St := ({ noB s0 with e := 1 } :: L.map noB) ++ [stReject 7]
def gB (n : Nat) : List (List Int) := [nums n, [(n : Int)]]
theorem stD_noB {w : World} {s : St} (h : StD w s) : StD w (noB s) := ⟨h.b, h.old, h.new, h.ys, h.gl⟩
theorem stD_e {w : World} {s : St} (h : StD w s) (k : Int) : StD w { s with e := k } := ⟨h.b, h.old, h.new, h.ys, h.gl⟩
set_option maxHeartbeats 16000000 in
theorem lGuard (w : World) (lp : Option Addr) (lc : Nat) (s0 : St) (L : List St) (hL : (s0 :: L).length ≤ 60) (hrd : StRd w lp (s0 :: L)) (hsd : ∀ s ∈ s0 :: L, StD w s) :
    Calls Tryz.prog 7 #[.slice lp (s0 :: L).length lc] w fun e w' => ∃ ss bs : Sl, e = .returned (.agg #[ss.v, bs.v]) ∧ PgM w' ss bs (gS s0 L) (gB (s0 :: L).length) ∧ Below w.heap.size w w' := by
  have HSD := Lib.hid hsd
  clear hsd
  obtain ⟨n, Hn⟩ : ∃ m, Hid ((s0 :: L).length = m) := ⟨_, Lib.hid rfl⟩
  have hn60 : n ≤ 60 := by rw [← Hn.out]; exact hL
  have hn1 : 1 ≤ n := by rw [← Hn.out]; simp
  rw [Hn.out]
  go_enter Tryz.func7, Tryz.ntmps7
  go_upto_region 1 with (fail)
  obtain ⟨W0, hW0, hB0, hR0⟩ : ∃ W, w.alloc (.cells #[.slice none 0 0, .slice none 0 0] 28) = W ∧ Below w.heap.size w W ∧ Row oV W w.heap.size 28 [on, on] := ⟨_, rfl, (Below.refl _ _).alloc (Nat.le_refl _) _, Row.new _ _ rfl⟩
  rw [hW0]
  clear hW0
  have hcl := lLine W0 lp lc (s0 :: L) (by omega) (hrd.below hB0)
  have hl0 := hR0.lt
  clear hrd
  rw [Hn.out] at hcl
  go_wp2_with fail
  refine hcl.mono ?_
  clear hcl
  rintro e W1 ⟨vs, vi, rfl, hB1, hrow, hown, hint, hdis⟩
  obtain ⟨vsv, vsc⟩ := vs
  obtain ⟨g, c, rfl⟩ : ∃ g c, vsv = .slice (some ⟨g, 0, none⟩) n c := by
    rcases hown.2 with ⟨_, h0⟩ | ⟨g, cap, cur, he, _⟩
    · omega
    · exact ⟨g, cap, he⟩
  obtain ⟨gd1, gd2⟩ := hdis g rfl
  have hg0 := (World.ownsRow.lt hown g rfl)
  have hin := fun k e => World.ownsRow.lt hint k e
  clear hdis
  have hZ : Row oV (W1.alloc (.cells #[.slice none 0 0, .slice none 0 0] 28)) W1.heap.size 28 [on, on] := Row.new _ _ rfl
  have hb2 : Below W1.heap.size W1 (W1.alloc (.cells #[.slice none 0 0, .slice none 0 0] 28)) := (Below.refl _ _).alloc (Nat.le_refl _) _
  obtain ⟨nb, hnb⟩ : ∃ nb, W0.heap.size + 2 = nb := ⟨_, rfl⟩
  rw [hnb] at hrow gd1 ⊢
  go_upto_region 2 with (first
    | ((with_reducible refine store_agg (f := oV) (l := [on, on]) (l' := [slOf g n c, slOf nb 1 1]) (t := 28) (C := #[.slice (some ⟨g, 0, none⟩) n c, .slice (some ⟨nb, 0, none⟩) 1 1]) aggProgram (.tmp 3) (.tmp 5) ?_ ?_ W1.heap.size ?_ ?_ ?_ hZ ?_ oV_one ?_); rfl; rfl; rfl; rfl; rfl; rfl; (intro W2 hs2 hG2 hz2)))
  have hB2 : Below W1.heap.size W1 W2 := hb2.grown hG2 hb2.size (fun k e => by cases e; exact Nat.le_refl _)
  have hrow2 := hrow.below hB2 hrow.lt
  have hown2 := ownsRow_keep hown fun k _ hl => hB2.block k hl
  have hint2 := hint.below' hB2
  have hnbl := hrow.lt
  have hpbl := hs2.lt
  obtain ⟨pb, hpb⟩ : ∃ pb, W1.heap.size = pb := ⟨_, rfl⟩
  rw [hpb] at hs2 hnbl hpbl hB2 ⊢
  have hgl : g < pb := by rw [← hpb]; exact hg0.2
  have hil : ∀ k, vi.1.ownBlock = some k → k < pb := fun k e => by rw [← hpb]; exact (hin k e).2
  have hBw : Below w.heap.size w W2 := hB0.trans ((hB1.trans (hB2.mono (by rw [← hpb]; exact hB1.size))).mono hB0.size)
  have hR2 : Row oV W2 w.heap.size 28 [on, on] := (hR0.below hB1 hl0).below hB2 (by rw [← hpb]; exact Nat.lt_of_lt_of_le hl0 hB1.size)
  have hlo : w.heap.size < g ∧ w.heap.size < nb ∧ w.heap.size < pb := ⟨by omega, by omega, by have := hB1.size; omega⟩
  clear hZ hb2 hG2 hz2 hrow hown hint
  have hj0 : (stCells ((s0 :: L).map noB)).length = n * 33 := by rw [stCells_length, List.length_map, Hn.out]
  have c0 : W2.cell? ⟨pb, 0, none⟩ = some (.slice (some ⟨g, 0, none⟩) n c) := by rw [hs2.cell?]; rfl
  have hsts2 : Sts W2 g ((s0 :: L).map noB) := Sts.of_own (by rw [List.length_map, Hn.out]; exact hown2)
  have c1 : W2.cell? ⟨g, 32, none⟩ = some (.int .i64 (-1)) := hsts2.at 0 (noB s0) rfl 32 (by rw [St.cs_length]; decide)
  have f1 := hsts2.frozen 32
  have hq0 : (0 : Int) < (n : Int) := by omega
  go_upto_region 3 with (fail)
  clear c0 c1 f1 hsts2
  have hown3 := ownsRow_set hown2 32 (.int .i64 1)
  rw [show (s0 :: L).map noB = noB s0 :: L.map noB from rfl, stCells_set0] at hown3
  have hs3 := hs2.set_other (b' := g) (by omega) 32 (.int .i64 1)
  have hrow3 := hrow2.set_other (b' := g) (Ne.symm gd1) 32 (.int .i64 1)
  have hint3 : Mem.Own iV (W2.setCell ⟨g, 32, none⟩ (.int .i64 1)) (W0.heap.size + 1) 3 vi.1 (nums n) := ownsRow_keep hint2 fun k e _ => Below.heap_setCell _ _ _ _ (fun h => gd2 (by have h2 : k = g := h; rw [← h2]; exact e))
  have hBw3 := below_set hBw 32 (by show w.heap.size ≤ g; omega) (.int .i64 1)
  have hR3 := hR2.set_other (b' := g) (by omega) 32 (.int .i64 1)
  clear hown2 hs2 hrow2 hint2 hBw hR2 hB2
  generalize (W2.setCell ⟨g, 32, none⟩ (.int .i64 1)) = W3 at hown3 hs3 hrow3 hint3 hBw3 hR3 ⊢
  have hpl3 := hs3.lt
  have d0 : W3.cell? ⟨pb, 0, none⟩ = some (.slice (some ⟨g, 0, none⟩) n c) := by rw [hs3.cell?]; rfl
  obtain ⟨u1, Hu1⟩ : ∃ u : Nat, Hid (u = 1) := ⟨_, Lib.hid rfl⟩
  have d1 : W3.cell? ⟨pb, 1, none⟩ = some (.slice (some ⟨nb, 0, none⟩) u1 u1) := by rw [hs3.cell?, Hu1.out]; rfl
  obtain ⟨W4, hW4, hB4, hI4⟩ : ∃ W, W3.alloc (.cells #[.int .i64 (n : Int)] 3) = W ∧ Below W3.heap.size W3 W ∧ Row iV W W3.heap.size 3 [(n : Int)] := ⟨_, rfl, (Below.refl _ _).alloc (Nat.le_refl _) _, Row.new _ _ rfl⟩
  have hs4 : W4.heap.size = W3.heap.size + 1 := by rw [← hW4]; simp
  have hO4 : Mem.Own oV W4 (W0.heap.size + 1) 39 (.slice (some ⟨nb, 0, none⟩) u1 u1) [vi] := by
    rw [Hu1.out]
    exact ⟨rfl, .inr ⟨nb, 1, #[vi.1], rfl, by omega, (hB4.block nb (by omega)).trans hrow3, Nat.le_refl _, by simp only [maxLen]; omega, rfl, rfl⟩⟩
  have hb4 : W0.heap.size + 1 ≤ W4.heap.size := by have := hB1.size; omega
  rw [← hW4] at hO4 hb4
  have H4 := Lib.hid (And.intro hW4 (And.intro hB4 (And.intro hI4 hs4)))
  have hs4' : (W3.alloc (.cells #[.int .i64 (n : Int)] 3)).heap.size = W3.heap.size + 1 := by simp
  clear hW4 hB4 hI4 hs4
  obtain ⟨R, HR⟩ : ∃ R : List OC, Hid (R = [vi, slOf W3.heap.size 1 1]) := ⟨_, Lib.hid rfl⟩
  have hRl : R.length = 2 := by rw [HR.out]; rfl
  have hal : Below W3.heap.size W3 ((W3.alloc (.cells #[.int .i64 (n : Int)] 3)).alloc (.cells #[.slice (some ⟨W3.heap.size, 0, none⟩) 1 1] 39)) := ((Below.refl _ _).alloc (Nat.le_refl _) _).alloc (by simp) _
  go_upto_region 4 with (at_builtin; (with_reducible refine append_one eltSI (.tmp 11) (.tmp 16) ?_ ?_ oV_one ?_ hO4 (slOf W3.heap.size 1 1) _ ?_ _ ?_ ?_ ?_ ?_ R ?_ ?_); rfl; rfl; rfl; rfl; (rw [hs4']; rfl); (simp); (simp); (exact hb4); (exact HR.out.symm); (intro p5 c5 W5 hO5 hB5 hG5); refine Pause.back ?_)
  have hnpb : some pb ≠ (Value.slice (some ⟨nb, 0, none⟩) u1 u1).ownBlock := ne_own (by omega)
  have hs5 := (hs3.below hal hpl3).grown hG5 hnpb
  have hown5 := ownsRow_keep (ownsRow_keep hown3 fun k _ hl => hal.block k hl) (fun k e hl => hG5.block k hl (by
    obtain rfl : g = k := Option.some.inj e
    exact ne_own gd1))
  have hint5 : Mem.Own iV W5 (W0.heap.size + 1) 3 vi.1 (nums n) := ownsRow_keep (hint3.below' hal) (fun k e hl => hG5.block k hl (by
    intro e2; injection e2 with e2
    exact own_ne_row (ownsRow_keep hint3 fun _ _ _ => rfl) hrow3 (by decide) k e e2))
  have hI5 : Row iV W5 W3.heap.size 3 [(n : Int)] := (H4.out.2.2.1.below ((Below.refl _ _).alloc (Nat.le_refl _) _) (by rw [H4.out.2.2.2]; omega)).grown (by rw [← H4.out.1]; exact hG5) (ne_own (by omega))
  have hlow5 : Below w.heap.size w W5 := (hBw3.trans (hal.mono hBw3.size)).grown hG5 (by have := hal.size; have := hBw3.size; omega) (fun k e => by obtain rfl := Option.some.inj e; first | (show _ ≤ nb; omega) | (show _ ≤ g; omega))
  have hR5 := (hR3.below hal (by have := hR3.lt; exact this)).grown hG5 (ne_own (by omega))
  rw [hRl] at hO5
  have e5 : W5.cell? ⟨pb, 1, none⟩ = some (.slice (some ⟨nb, 0, none⟩) u1 u1) := by rw [hs5.cell?, Hu1.out]; rfl
  have f5 := hs5.frozen 1
  clear d0 d1 hs3 hrow3 hint3 hBw3 hR3 hB5 hG5 hnpb hO4 hb4 hs4' hown3
  refine Pause.out ?_
  go_upto_region 4 with (fail)
  clear e5 f5
  have hs6 : Row oV (W5.setCell ⟨pb, 1, none⟩ (.slice p5 2 c5)) pb 28 [slOf g n c, ⟨.slice p5 2 c5, rfl⟩] := hs5.set 1 ⟨.slice p5 2 c5, rfl⟩
  have hO6 : Mem.Own oV (W5.setCell ⟨pb, 1, none⟩ (.slice p5 2 c5)) (W0.heap.size + 1) 39 (.slice p5 2 c5) R := ownsRow_keep hO5 fun k e _ => Below.heap_setCell _ _ _ _ (own_ne_row (ownsRow_keep hO5 fun _ _ _ => rfl) hs5 (by decide) k e)
  have hown6 := ownsRow_keep hown5 fun k e _ => Below.heap_setCell W5 ⟨pb, 1, none⟩ (.slice p5 2 c5) k (by cases e; show g ≠ pb; omega)
  have hint6 : Mem.Own iV (W5.setCell ⟨pb, 1, none⟩ (.slice p5 2 c5)) (W0.heap.size + 1) 3 vi.1 (nums n) := ownsRow_keep hint5 fun k e _ => Below.heap_setCell _ _ _ _ (own_ne_row (ownsRow_keep hint5 fun _ _ _ => rfl) hs5 (by decide) k e)
  have hI6 := hI5.set_other (b' := pb) (by omega) 1 (.slice p5 2 c5)
  have hlow6 := below_set hlow5 1 (by show w.heap.size ≤ pb; omega) (.slice p5 2 c5)
  have hR6 := hR5.set_other (b' := pb) (by omega) 1 (.slice p5 2 c5)
  clear hs5 hO5 hown5 hint5 hI5 hlow5 hR5 hal
  generalize (W5.setCell ⟨pb, 1, none⟩ (.slice p5 2 c5)) = W6 at hs6 hO6 hown6 hint6 hI6 hlow6 hR6 ⊢
  have HD0 : Hid (W6.cell? ⟨pb, 0, none⟩ = some (.slice (some ⟨g, 0, none⟩) n c)) := Lib.hid (by rw [hs6.cell?]; rfl)
  have hal : Below W6.heap.size W6 (W6.alloc (.cells (stCells [stReject 7]).toArray 45)) := (Below.refl _ _).alloc (Nat.le_refl _) _
  have hOA := ownsRow_keep hown6 fun k _ hl => hal.block k hl
  have hca : ∀ i u, ((stReject 7).cs.map oV)[i]? = some u → (W6.alloc (.cells (stCells [stReject 7]).toArray 45)).cell? ⟨W6.heap.size, i, none⟩ = some u := fun i u hi => by
    have hi2 : i < (stReject 7).cs.length := by have := (List.getElem?_eq_some_iff.1 hi).1; simpa using this
    have := (Sts.new W6 [stReject 7]).at 0 (stReject 7) rfl i hi2
    rw [Nat.zero_mul, Nat.zero_add] at this
    rw [this, ← List.getElem?_map]; exact hi
  have h1a : ∀ u ∈ (stReject 7).cs.map oV, u.oneCell' = true := fun u hu => by obtain ⟨y, _, rfl⟩ := List.mem_map.1 hu; exact y.2
  have hbs6 : W0.heap.size + 1 ≤ W6.heap.size := by have := (World.ownsRow.lt hown6 g rfl).1; have := (World.ownsRow.lt hown6 g rfl).2; omega
  have hsn : n ≤ c := by
    rcases hown6.2 with ⟨h0, _⟩ | ⟨_, _, _, h0, _, _, h1, _⟩
    · cases h0
    · cases h0; exact h1
  have HK := Lib.hid (And.intro hs6 (And.intro hO6 (And.intro hint6 (And.intro hI6 (And.intro hlow6 hR6)))))
  clear hs6 hO6 hint6 hI6 hlow6 hR6 hown6
  have d0 := HD0.out
  have hbz6 : W0.heap.size + 1 ≤ (W6.alloc (.cells (stCells [stReject 7]).toArray 45)).heap.size := by rw [World.size_alloc]; omega
  have HAL := Lib.hid hal
  rw [show (stCells [stReject 7]).toArray = #[.int .i64 14, .int .i64 0, .int .i64 0, .int .i64 0, .int .i64 0, .int .i64 7, .int .i64 0, .slice none 0 0, .bool false, .int .i64 0, .slice none 0 0, .slice none 0 0, .int .u64 0, .int .u64 0, .int .u64 0, .int .u64 0, .int .i64 0, .int .i64 0, .int .i64 0, .int .i64 0, .bool false, .slice none 0 0, .slice none 0 0, .int .i64 0, .bool false, .int .i64 0, .int .i64 0, .int .i64 0, .int .i64 0, .slice none 0 0, .string ⟨#[]⟩, .int .i64 (-1), .int .i64 (-1)] from rfl] at hOA hca hbz6
  clear hal
  go_upto_region 5 with (at_builtin; (with_reducible refine append_bigL (t := 25) (size := 33) (bytes := 368) ?_ (.tmp 20) (.tmp 22) ?_ Tryz.underlying25 ?_ ?_ ?_ ?_ n _ ?_ hOA W6.heap.size ((stReject 7).cs.map oV) ?_ ?_ hca h1a ?_ ?_ hbz6 ?_); rfl; rfl; rfl; rfl; rfl; (omega); rfl; rfl; rfl; (simp only [maxLen]; omega); (omega); (intro v2 w2 hO2 hG2 hW2); refine Pause.back ?_)
  have hal := HAL.out
  clear HAL d0
  obtain ⟨g2, c2, rfl⟩ : ∃ g c, v2 = .slice (some ⟨g, 0, none⟩) (n + 1) c := by
    rcases hO2.2 with ⟨_, h0⟩ | ⟨g, cap, cur, he, _⟩
    · omega
    · exact ⟨g, cap, he⟩
  have hpl6 := HK.out.1.lt
  have hs7 := (HK.out.1.below hal hpl6).grown hG2 (ne_own (by omega))
  have hO7 : Mem.Own oV w2 (W0.heap.size + 1) 39 (.slice p5 2 c5) R := ownsRow_keep (HK.out.2.1.below' hal) (fun k e hl => hG2.block k hl (by
    intro e2; injection e2 with e2
    exact own_ne_own (HK.out.2.1.below' hal) hOA (by decide) k e _ rfl e2))
  have hint7 : Mem.Own iV w2 (W0.heap.size + 1) 3 vi.1 (nums n) := ownsRow_keep (HK.out.2.2.1.below' hal) (fun k e hl => hG2.block k hl (by
    intro e2; injection e2 with e2
    exact own_ne_own (HK.out.2.2.1.below' hal) hOA (by decide) k e _ rfl e2))
  have hI7 := (HK.out.2.2.2.1.below hal HK.out.2.2.2.1.lt).grown hG2 (ne_own (by omega))
  have hlow7 : Below w.heap.size w w2 := (HK.out.2.2.2.2.1.trans (hal.mono HK.out.2.2.2.2.1.size)).grown hG2 (by have := hal.size; have := HK.out.2.2.2.2.1.size; omega) (fun k e => by obtain rfl := Option.some.inj e; first | (show _ ≤ nb; omega) | (show _ ≤ g; omega))
  have hR7 := (HK.out.2.2.2.2.2.below hal HK.out.2.2.2.2.2.lt).grown hG2 (ne_own (by omega))
  have e7 : w2.cell? ⟨pb, 0, none⟩ = some (.slice (some ⟨g, 0, none⟩) n c) := by rw [hs7.cell?]; rfl
  have f7 := hs7.frozen 0
  clear HK HD0 hal hOA hca h1a hbs6 hbz6 hG2 hW2
  refine Pause.out ?_
  go_upto_region 5 with (fail)
  clear e7 f7
  have hO2' := ownsRow_keep hO2 fun k e _ => Below.heap_setCell w2 ⟨pb, 0, none⟩ (.slice (some ⟨g2, 0, none⟩) (n + 1) c2) k (own_ne_row hO2 hs7 (by decide) k e)
  have hO8 : Mem.Own oV (w2.setCell ⟨pb, 0, none⟩ (.slice (some ⟨g2, 0, none⟩) (n + 1) c2)) (W0.heap.size + 1) 39 (.slice p5 2 c5) R := ownsRow_keep hO7 fun k e _ => Below.heap_setCell _ _ _ _ (own_ne_row (ownsRow_keep hO7 fun _ _ _ => rfl) hs7 (by decide) k e)
  have hint8 : Mem.Own iV (w2.setCell ⟨pb, 0, none⟩ (.slice (some ⟨g2, 0, none⟩) (n + 1) c2)) (W0.heap.size + 1) 3 vi.1 (nums n) := ownsRow_keep hint7 fun k e _ => Below.heap_setCell _ _ _ _ (own_ne_row (ownsRow_keep hint7 fun _ _ _ => rfl) hs7 (by decide) k e)
  have hs8 : Row oV (w2.setCell ⟨pb, 0, none⟩ (.slice (some ⟨g2, 0, none⟩) (n + 1) c2)) pb 28 [⟨.slice (some ⟨g2, 0, none⟩) (n + 1) c2, rfl⟩, ⟨.slice p5 2 c5, rfl⟩] := hs7.set 0 ⟨.slice (some ⟨g2, 0, none⟩) (n + 1) c2, rfl⟩
  have hI8 := hI7.set_other (b' := pb) (by omega) 0 (.slice (some ⟨g2, 0, none⟩) (n + 1) c2)
  have hlow8 := below_set hlow7 0 (by show w.heap.size ≤ pb; omega) (.slice (some ⟨g2, 0, none⟩) (n + 1) c2)
  have hR8 := hR7.set_other (b' := pb) (by omega) 0 (.slice (some ⟨g2, 0, none⟩) (n + 1) c2)
  clear hs7 hO2 hO7 hint7 hI7 hlow7 hR7
  generalize (w2.setCell ⟨pb, 0, none⟩ (.slice (some ⟨g2, 0, none⟩) (n + 1) c2)) = W8 at hO2' hO8 hint8 hs8 hI8 hlow8 hR8 ⊢
  have H8 := Lib.hid (And.intro hO2' (And.intro hO8 (And.intro hint8 (And.intro hI8 hlow8))))
  clear hO2' hO8 hint8 hI8 hlow8
  go_wp2_with (first
    | ((with_reducible refine load_agg (f := oV) (l := [⟨.slice (some ⟨g2, 0, none⟩) (n + 1) c2, rfl⟩, ⟨.slice p5 2 c5, rfl⟩]) (C := #[.slice (some ⟨g2, 0, none⟩) (n + 1) c2, .slice p5 2 c5]) aggProgram (.tmp 3) ?_ ?_ pb 0 ?_ hs8.at rfl ?_); rfl; rfl; rfl)
    | ((with_reducible refine store_agg (f := oV) (l := [on, on]) (l' := [⟨.slice (some ⟨g2, 0, none⟩) (n + 1) c2, rfl⟩, ⟨.slice p5 2 c5, rfl⟩]) (t := 28) (C := #[.slice (some ⟨g2, 0, none⟩) (n + 1) c2, .slice p5 2 c5]) aggProgram (.tmp 2) (.tmp 25) ?_ ?_ w.heap.size ?_ ?_ ?_ hR8 ?_ oV_one ?_); rfl; rfl; rfl; rfl; rfl; rfl; (intro W9 hs9 hG9 hz9)))
  refine bodyPost_ret (v := .agg #[.slice (some ⟨g2, 0, none⟩) (n + 1) c2, .slice p5 2 c5]) (results_agg (f := oV) (l := [⟨.slice (some ⟨g2, 0, none⟩) (n + 1) c2, rfl⟩, ⟨.slice p5 2 c5, rfl⟩]) rfl _ aggProgram w.heap.size 0 rfl hs9.at) rfl ?_
  obtain ⟨k1, k2, k3, k4, k5⟩ := H8.out
  have nR := own_ne_row k1 hR8 (by decide)
  have nO := own_ne_row (ownsRow_keep k2 fun _ _ _ => rfl) hR8 (by decide)
  have nI := own_ne_row (ownsRow_keep k3 fun _ _ _ => rfl) hR8 (by decide)
  have m1 := ownsRow_keep k1 fun k e hl => hG9.block k hl (by intro e2; injection e2 with e2; exact nR k e e2)
  have m2 : Mem.Own oV W9 (W0.heap.size + 1) 39 (.slice p5 2 c5) R := ownsRow_keep k2 fun k e hl => hG9.block k hl (by intro e2; injection e2 with e2; exact nO k e e2)
  have m3 : Mem.Own iV W9 (W0.heap.size + 1) 3 vi.1 (nums n) := ownsRow_keep k3 fun k e hl => hG9.block k hl (by intro e2; injection e2 with e2; exact nI k e e2)
  have m4 := k4.grown hG9 (by intro e; have := Option.some.inj e; omega)
  have m5 : Below w.heap.size w W9 := k5.grown hG9 k5.size (fun k e => by cases e; exact Nat.le_refl _)
  have hlen : (gS s0 L).length = n + 1 := by rw [← Hn.out]; simp [gS]
  have hst : Sts W9 g2 (gS s0 L) := Sts.of_own (c := c2) (n := n + 1) (by
    rw [hlen]
    unfold gS
    rw [stCells_append]
    simpa [stCells] using m1)
  obtain ⟨g5, hp5, hc5⟩ : ∃ g5, p5 = some ⟨g5, 0, none⟩ ∧ 2 ≤ c5 := by
    rcases m2.2 with ⟨_, h0⟩ | ⟨g5, cap, cur, he, _, _, hc, _⟩
    · rw [hRl] at h0; omega
    · injection he with e1 e2 e3
      exact ⟨g5, e1, by rw [hRl] at hc; omega⟩
  have hrd2 := m2.rd
  subst hp5
  have hce : ∀ i (hi : i < R.length), W9.cell? ⟨g5, 0 + i, none⟩ = some (oV R[i]) ∧ g5 < W9.heap.size := fun i hi => by
    rcases hrd2 with ⟨_, _, h0⟩ | ⟨b, o, cap, he, _, ha, hl⟩
    · rw [h0] at hi; simp at hi
    · injection he with e1 e2 e3
      injection e1 with e1
      injection e1 with e1 e4
      subst e1 e4
      exact ⟨(ha i hi).trans (by rw [List.getElem?_eq_getElem hi]; rfl), hl⟩
  have hsc : n + 1 ≤ c2 := by
    rcases m1.2 with ⟨h0, _⟩ | ⟨_, _, _, h0, _, _, h1, _⟩
    · cases h0
    · cases h0; exact h1
  refine ⟨⟨some ⟨g2, 0, none⟩, n + 1, c2⟩, ⟨some ⟨g5, 0, none⟩, 2, c5⟩, rfl, ⟨hlen.symm, rfl, hsc, hc5, .inr ⟨g2, 0, rfl, hst.lt, fun j s hj => by rw [Nat.zero_add]; exact hst.at j s hj⟩, ?_, .inr ⟨g5, 0, rfl, (hce 0 (by omega)).2, ?_⟩⟩, m5⟩
  · intro s hs
    unfold gS at hs
    rw [List.mem_append, List.mem_cons, List.mem_map, List.mem_singleton] at hs
    rcases hs with (rfl | ⟨s', hs', rfl⟩) | rfl
    · exact stD_e (stD_noB ((HSD.out s0 List.mem_cons_self).below m5)) 1
    · exact stD_noB ((HSD.out s' (List.mem_cons_of_mem _ hs')).below m5)
    · exact ⟨.inl ⟨none, rfl, rfl⟩, .inl ⟨none, rfl, rfl⟩, .inl ⟨none, rfl, rfl⟩, .inl ⟨none, rfl, rfl⟩, fun hl => absurd hl (by decide)⟩
  · intro j l hj
    have h0 := (hce 0 (by omega)).1
    have h1 := (hce 1 (by omega)).1
    simp only [HR.out] at h0 h1
    match j, hj with
    | 0, hj => cases hj; exact ⟨_, h0, m3.rd⟩
    | 1, hj => cases hj; exact ⟨_, h1, .inr ⟨W3.heap.size, 0, 1, rfl, Nat.le_refl _, m4.at, m4.lt⟩⟩
    | j + 2, hj => simp [gB] at hj
end Go.Proofs.YtllomcmhkocdfaaGreatDoor

/- Programs that the resolver refuses; the zero program. -/
namespace Go.Proofs.YtllomcmhkocdfaaGreatDoor
open Go Go.RowKit Mem
set_option maxRecDepth 100000

set_option maxHeartbeats 8000000 in
theorem dValidZ (w : World) :
    Calls Tryz.prog 24 #[.agg #[.slice none 0 0, .slice none 0 0]] w fun e w' => e = .returned (.int .i64 1) ∧ Below w.heap.size w w' := by
  go_enter Tryz.func24, Tryz.ntmps24
  go_upto_region 1 with (fail)
  have hB : Below w.heap.size w (w.alloc (.cells #[.slice none 0 0, .slice none 0 0] 28)) := below_al (Below.refl _ _) _
  have p0 : (w.alloc (.cells #[.slice none 0 0, .slice none 0 0] 28)).cell? ⟨w.heap.size, 0, none⟩ = some (.slice none 0 0) := by unfold World.cell?; rw [World.alloc_heap_new]; rfl
  have p1 : (w.alloc (.cells #[.slice none 0 0, .slice none 0 0] 28)).cell? ⟨w.heap.size, 1, none⟩ = some (.slice none 0 0) := by unfold World.cell?; rw [World.alloc_heap_new]; rfl
  generalize (w.alloc (.cells #[.slice none 0 0, .slice none 0 0] 28)) = W at *
  go_wp2
  go_ret
  exact ⟨rfl, hB⟩

set_option maxHeartbeats 8000000 in
theorem rCheckZ (w : World) :
    Calls Tryz.prog 20 #[.agg #[.slice none 0 0, .slice none 0 0]] w fun e w' => ∃ a b c : OC, e = .returned (.tuple #[.agg #[oV a, oV b, oV c], .int .i64 1]) ∧ Below w.heap.size w w' := by
  go_enter Tryz.func20, Tryz.ntmps20
  go_upto_region 1 with (fail)
  obtain ⟨W, hW, hB, hs, g0, g1⟩ : ∃ W, (w.alloc (.cells #[.slice none 0 0, .slice none 0 0] 28)).alloc (.cells #[.int .i64 0, .int .i64 0, .slice none 0 0] 77) = W ∧ Below w.heap.size w W ∧ w.heap.size + 2 ≤ W.heap.size ∧ W.heap[w.heap.size]? = some (.cells #[.slice none 0 0, .slice none 0 0] 28 (0, 0)) ∧ W.heap[w.heap.size + 1]? = some (.cells #[.int .i64 0, .int .i64 0, .slice none 0 0] 77 (0, 0)) := by
    refine ⟨_, rfl, below_al (below_al (Below.refl _ _) _) _, by simp, ?_, ?_⟩
    all_goals repeat (first | (refine heap_new' _ _ _ ?_; (simp; done)) | (refine (Below.heap_alloc _ _ _ ?_).trans ?_; · (simp <;> omega)))
  rw [hW]
  clear hW
  have p0 : W.cell? ⟨w.heap.size, 0, none⟩ = some (.slice none 0 0) := by unfold World.cell?; rw [g0]; rfl
  have p1 : W.cell? ⟨w.heap.size, 1, none⟩ = some (.slice none 0 0) := by unfold World.cell?; rw [g0]; rfl
  have hZ : Row oV W (w.heap.size + 1) 77 [oi 0, oi 0, on] := g1
  clear g0 g1
  go_wp2_with fail
  refine (dValidZ W).mono ?_
  rintro e W1 ⟨rfl, hB1⟩
  replace hZ := hZ.below hB1 hZ.lt
  replace hB := hB.trans (hB1.mono hB.size)
  clear p0 p1 hB1 hs
  go_wp2_with (first
    | ((with_reducible refine store_agg (f := oV) (l := [oi 0, oi 0, on]) (l' := [oi 0, oi 0, on]) (t := 77) (C := #[.int .i64 0, .int .i64 0, .slice none 0 0]) aggInfo (.tmp 2) (.tmp 18) ?_ ?_ (w.heap.size + 1) ?_ ?_ ?_ hZ ?_ oV_one ?_); rfl; rfl; rfl; rfl; rfl; rfl; (intro Y hsY hGY hzY)))
  refine bodyPost_ret (v := .tuple #[.agg #[.int .i64 0, .int .i64 0, .slice none 0 0], .int .i64 1]) (results_agg2' (f := oV) (l := [oi 0, oi 0, on]) (t := 3) rfl _ aggInfo (w.heap.size + 1) 0 rfl hsY.at) rfl ?_
  exact ⟨oi 0, oi 0, on, rfl, hB.grown hGY hB.size (fun k e => by cases e; exact Nat.le_succ _)⟩

/-- the resolver refuses the program -/
def Refused (ss bs : Sl) (w : World) : Prop := ∀ W, Below w.heap.size w W → Calls Tryz.prog 20 #[.agg #[ss.v, bs.v]] W fun e w' => ∃ (a b c : OC) (k : Int), k ≠ 0 ∧ e = .returned (.tuple #[.agg #[oV a, oV b, oV c], .int .i64 k]) ∧ Below W.heap.size W w'
theorem Refused.below {ss bs : Sl} {w w' : World} (h : Refused ss bs w) (hb : Below w.heap.size w w') : Refused ss bs w' := fun W hW => h W (hb.trans (hW.mono hb.size))
set_option maxHeartbeats 8000000 in
theorem iReadBad (ss bs : Sl) (w : World) (hR : Refused ss bs w) (u : Value) :
    Calls Tryz.prog 19 #[.agg #[ss.v, bs.v], u] w fun e w' => e = .returned (.tuple #[.pointer none, .agg #[.bool false, .int .i64 0], .int .i64 1]) ∧ Below w.heap.size w w' := by
  have HR := Lib.hid hR
  clear hR
  show Calls _ _ #[.agg #[.slice ss.p ss.n ss.c, .slice bs.p bs.n bs.c], _] _ _
  go_enter Tryz.func19, Tryz.ntmps19
  go_upto_region 1 with (fail)
  obtain ⟨W, hW, hB, hs, g0, g1⟩ : ∃ W, (w.alloc (.cells #[.slice ss.p ss.n ss.c, .slice bs.p bs.n bs.c] 28)).alloc (.cells #[.bool false, .int .i64 0] 68) = W ∧ Below w.heap.size w W ∧ w.heap.size + 2 ≤ W.heap.size ∧ W.heap[w.heap.size]? = some (.cells #[.slice ss.p ss.n ss.c, .slice bs.p bs.n bs.c] 28 (0, 0)) ∧ W.heap[w.heap.size + 1]? = some (.cells #[.bool false, .int .i64 0] 68 (0, 0)) := by
    refine ⟨_, rfl, ((Below.refl _ _).alloc (Nat.le_refl _) _).alloc (by simp) _, by simp, ?_, ?_⟩
    all_goals repeat (first | exact heap_new' _ _ _ (by (try simp) <;> omega) | refine (Below.heap_alloc _ _ _ (by (try simp) <;> omega)).trans ?_)
  rw [hW]
  clear hW
  have p0 : W.cell? ⟨w.heap.size, 0, none⟩ = some (.slice ss.p ss.n ss.c) := by unfold World.cell?; rw [g0]; rfl
  have p1 : W.cell? ⟨w.heap.size, 1, none⟩ = some (.slice bs.p bs.n bs.c) := by unfold World.cell?; rw [g0]; rfl
  have hZ : Row oV W (w.heap.size + 1) 68 [ob false, oi 0] := g1
  clear g0 g1
  go_wp2_with fail
  refine (HR.out W hB).mono ?_
  rintro e W1 ⟨xa, xb, xc, k, hk, rfl, hB1⟩
  have hZ1 : Row oV (W1.alloc (.cells #[.int .i64 0, .int .i64 0, .slice none 0 0] 77)) W1.heap.size 77 [oi 0, oi 0, on] := Row.new _ _ rfl
  have hB2 := (hB.trans (hB1.mono hB.size)).alloc (Nat.le_trans hB.size hB1.size) (.cells #[.int .i64 0, .int .i64 0, .slice none 0 0] 77)
  have hZ2 := (hZ.below hB1 hZ.lt).alloc (.cells #[.int .i64 0, .int .i64 0, .slice none 0 0] 77)
  have hs1 := Nat.le_trans hs hB1.size
  clear hZ p0 p1
  go_upto_region 2 with (first
    | ((with_reducible refine store_agg (f := oV) (l := [oi 0, oi 0, on]) (l' := [xa, xb, xc]) (t := 77) (C := #[oV xa, oV xb, oV xc]) aggInfo (.tmp 7) (.tmp 14) ?_ ?_ W1.heap.size ?_ ?_ ?_ hZ1 ?_ oV_one ?_); rfl; rfl; rfl; rfl; rfl; rfl; intro W2 hs2 hG2 hz2))
  have hZ3 := hZ2.grown hG2 (by intro e; injection e with e; omega)
  have hB3 := hB2.grown hG2 hB2.size (fun g e => by cases e; exact Nat.le_trans hB.size hB1.size)
  clear hB hB1 hB2 hZ1 hZ2 hG2 hz2 hs2
  have hl3 := hZ3.lt
  go_wp2_with (first
    | ((with_reducible refine store_agg (f := oV) (l := [ob false, oi 0]) (l' := [ob false, oi 0]) (t := 68) (C := #[.bool false, .int .i64 0]) aggVerdict (.tmp 5) (.tmp 23) ?_ ?_ (w.heap.size + 1) ?_ ?_ ?_ hZ3 ?_ oV_one ?_); rfl; rfl; rfl; rfl; rfl; rfl; (intro Y hsY hGY hzY)))
  refine bodyPost_ret (v := .tuple #[.pointer none, .agg #[.bool false, .int .i64 0], .int .i64 1]) (results_agg3 (f := oV) (l := [ob false, oi 0]) (t := 6) (s := 4) rfl _ aggVerdict (w.heap.size + 1) 0 rfl hsY.at) rfl ?_
  exact ⟨rfl, hB3.grown hGY hB3.size (fun k e => by cases e; exact Nat.le_succ _)⟩
set_option maxHeartbeats 8000000 in
theorem iRunBad (ss bs : Sl) (w : World) (hR : Refused ss bs w) (u : Value) :
    Calls Tryz.prog 9 #[.agg #[ss.v, bs.v], u] w fun e w' => e = .returned (.tuple #[.agg #[.bool false, .int .i64 0, .slice none 0 0], .int .i64 1]) ∧ Below w.heap.size w w' := by
  have HR := Lib.hid hR
  clear hR
  show Calls _ _ #[.agg #[.slice ss.p ss.n ss.c, .slice bs.p bs.n bs.c], _] _ _
  go_enter Tryz.func9, Tryz.ntmps9
  go_upto_region 1 with (fail)
  obtain ⟨W, hW, hB, hs, g0, g1⟩ : ∃ W, (w.alloc (.cells #[.slice ss.p ss.n ss.c, .slice bs.p bs.n bs.c] 28)).alloc (.cells #[.bool false, .int .i64 0, .slice none 0 0] 49) = W ∧ Below w.heap.size w W ∧ w.heap.size + 2 ≤ W.heap.size ∧ W.heap[w.heap.size]? = some (.cells #[.slice ss.p ss.n ss.c, .slice bs.p bs.n bs.c] 28 (0, 0)) ∧ W.heap[w.heap.size + 1]? = some (.cells #[.bool false, .int .i64 0, .slice none 0 0] 49 (0, 0)) := by
    refine ⟨_, rfl, ((Below.refl _ _).alloc (Nat.le_refl _) _).alloc (by simp) _, by simp, ?_, ?_⟩
    all_goals repeat (first | exact heap_new' _ _ _ (by (try simp) <;> omega) | refine (Below.heap_alloc _ _ _ (by (try simp) <;> omega)).trans ?_)
  rw [hW]
  clear hW
  have p0 : W.cell? ⟨w.heap.size, 0, none⟩ = some (.slice ss.p ss.n ss.c) := by unfold World.cell?; rw [g0]; rfl
  have p1 : W.cell? ⟨w.heap.size, 1, none⟩ = some (.slice bs.p bs.n bs.c) := by unfold World.cell?; rw [g0]; rfl
  have hZ : Row oV W (w.heap.size + 1) 49 [ob false, oi 0, on] := g1
  clear g0 g1
  go_wp2_with fail
  refine (iReadBad ss bs W (HR.out.below hB) u).mono ?_
  rintro e W1 ⟨rfl, hB1⟩
  replace hZ := (hZ.below hB1 hZ.lt).alloc (.cells #[.bool false, .int .i64 0] 68)
  replace hB := (hB.trans (hB1.mono hB.size)).alloc (Nat.le_trans hB.size hB1.size) (.cells #[.bool false, .int .i64 0] 68)
  have hs1 := Nat.le_trans hs hB1.size
  clear p0 p1 hB1 hs
  go_upto_region 2 with (fail)
  generalize (W1.alloc (.cells #[.bool false, .int .i64 0] 68)) = W2 at hZ hB ⊢
  have hl2 := hZ.lt
  go_wp2_with (first
    | ((with_reducible refine store_agg (f := oV) (l := [ob false, oi 0, on]) (l' := [ob false, oi 0, on]) (t := 49) (C := #[.bool false, .int .i64 0, .slice none 0 0]) aggRecord (.tmp 4) (.tmp 19) ?_ ?_ (w.heap.size + 1) ?_ ?_ ?_ hZ ?_ oV_one ?_); rfl; rfl; rfl; rfl; rfl; rfl; (intro Y hsY hGY hzY)))
  refine bodyPost_ret (v := .tuple #[.agg #[.bool false, .int .i64 0, .slice none 0 0], .int .i64 1]) (results_agg2' (f := oV) (l := [ob false, oi 0, on]) (t := 5) rfl _ aggRecord (w.heap.size + 1) 0 rfl hsY.at) rfl ?_
  exact ⟨rfl, hB.grown hGY hB.size (fun k e => by cases e; exact Nat.le_succ _)⟩
theorem refusedZ (w : World) : Refused Sl.z Sl.z w := fun W _ => (rCheckZ W).mono (by
  rintro e w' ⟨a, b, c, rfl, hB⟩
  exact ⟨a, b, c, 1, by decide, rfl, hB⟩)
end Go.Proofs.YtllomcmhkocdfaaGreatDoor
