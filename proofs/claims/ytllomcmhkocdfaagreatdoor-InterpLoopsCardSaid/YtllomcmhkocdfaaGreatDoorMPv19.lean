/- A program variable: what line has made, changed in places. -/
import Derived.Test.YtllomcmhkocdfaaGreatDoorMSts
import Derived.Test.YtllomcmhkocdfaaGreatDoorMRunP
namespace Go.Proofs.YtllomcmhkocdfaaGreatDoor
open Go Go.RowKit Mem
set_option maxRecDepth 100000

/-- the variable pb holds a program: its statements L lie in the block g, what they hold lay in w0 -/
structure PV (w0 w : World) (pb g c : Nat) (bv : OC) (L : List St) : Prop where
  row : Row oV w pb 28 [slOf g L.length c, bv]
  sts : Sts w g L
  sd : ∀ s ∈ L, StD w0 s
  bel : Below w0.heap.size w0 w
  lo : w0.heap.size ≤ g ∧ w0.heap.size ≤ pb
  le : L.length ≤ c
  ne : g ≠ pb
/-- blocks in memory, all of them above N -/
def BlM (N : Nat) (w : World) (b : Nat) (B : List (List Int)) : Prop := N ≤ b ∧ b < w.heap.size ∧ ∀ j l, B[j]? = some l → ∃ r, w.cell? ⟨b, j, none⟩ = some (.slice (some ⟨r, 0, none⟩) l.length l.length) ∧ N ≤ r ∧ r < w.heap.size ∧ At iV w r 0 l
section
variable {w0 w w' : World} {pb g c b N : Nat} {bv : OC} {L : List St} {B : List (List Int)}
theorem PV.keep (h : PV w0 w pb g c bv L) (hb : Below w.heap.size w w') : PV w0 w' pb g c bv L :=
  ⟨h.row.below hb h.row.lt, h.sts.below hb h.sts.lt, h.sd, h.bel.trans (hb.mono h.bel.size), h.lo, h.le, h.ne⟩
theorem PV.setT (h : PV w0 w pb g c bv L) (j : Nat) (s : St) (k : Int) (hj : L[j]? = some s) : PV w0 (w.setCell ⟨g, j * 33 + 31, none⟩ (.int .i64 k)) pb g c bv (L.set j { s with t := k }) := by
  refine ⟨?_, h.sts.set j s _ 31 (oi k) hj (by decide) rfl, fun s' hs' => ?_, below_set h.bel _ h.lo.1 _, h.lo, by rw [List.length_set]; exact h.le, h.ne⟩
  · rw [List.length_set]; exact h.row.set_other (Ne.symm h.ne) _ _
  · rcases List.mem_or_eq_of_mem_set hs' with h1 | h1
    · exact h.sd s' h1
    · subst h1
      have h2 := h.sd s (List.mem_of_getElem? hj)
      exact ⟨h2.b, h2.old, h2.new, h2.ys⟩
theorem PV.setE (h : PV w0 w pb g c bv L) (j : Nat) (s : St) (k : Int) (hj : L[j]? = some s) : PV w0 (w.setCell ⟨g, j * 33 + 32, none⟩ (.int .i64 k)) pb g c bv (L.set j { s with e := k }) := by
  refine ⟨?_, h.sts.set j s _ 32 (oi k) hj (by decide) rfl, fun s' hs' => ?_, below_set h.bel _ h.lo.1 _, h.lo, by rw [List.length_set]; exact h.le, h.ne⟩
  · rw [List.length_set]; exact h.row.set_other (Ne.symm h.ne) _ _
  · rcases List.mem_or_eq_of_mem_set hs' with h1 | h1
    · exact h.sd s' h1
    · subst h1
      have h2 := h.sd s (List.mem_of_getElem? hj)
      exact ⟨h2.b, h2.old, h2.new, h2.ys⟩
theorem PV.setB (h : PV w0 w pb g c bv L) (bv' : OC) : PV w0 (w.setCell ⟨pb, 1, none⟩ bv'.1) pb g c bv' L :=
  ⟨h.row.set 1 bv', h.sts.block (Below.heap_setCell _ _ _ _ h.ne), h.sd, below_set h.bel _ h.lo.2 _, h.lo, h.le, h.ne⟩
/-- the cell of a statement's block -/
theorem PV.cellT (h : PV w0 w pb g c bv L) (j : Nat) (s : St) (hj : L[j]? = some s) : w.cell? ⟨g, j * 33 + 31, none⟩ = some (.int .i64 s.t) := by
  rw [h.sts.at j s hj 31 (by rw [St.cs_length]; decide)]; rfl
theorem PV.cellE (h : PV w0 w pb g c bv L) (j : Nat) (s : St) (hj : L[j]? = some s) : w.cell? ⟨g, j * 33 + 32, none⟩ = some (.int .i64 s.e) := by
  rw [h.sts.at j s hj 32 (by rw [St.cs_length]; decide)]; rfl
theorem BlM.keep (h : BlM N w b B) (hb : Below w.heap.size w w') : BlM N w' b B :=
  ⟨h.1, Nat.lt_of_lt_of_le h.2.1 hb.size, fun j l hj => by
    obtain ⟨r, h1, h2, h3, h4⟩ := h.2.2 j l hj
    exact ⟨r, (hb.cell (p := ⟨b, j, none⟩) h.2.1).trans h1, h2, Nat.lt_of_lt_of_le h3 hb.size, h4.below hb h3⟩⟩
theorem BlM.set (h : BlM N w b B) (x i : Nat) (v : Value) (hx : x < N) : BlM N (w.setCell ⟨x, i, none⟩ v) b B :=
  ⟨h.1, by simpa using h.2.1, fun j l hj => by
    obtain ⟨r, h1, h2, h3, h4⟩ := h.2.2 j l hj
    refine ⟨r, (World.cell?_of_block (a := ⟨b, j, none⟩) (Below.heap_setCell _ _ _ _ (by have := h.1; show b ≠ x; omega))).trans h1, h2, by simpa using h3, fun k hk => (World.cell?_of_block (a := ⟨r, 0 + k, none⟩) (Below.heap_setCell _ _ _ _ (by show r ≠ x; omega))).trans (h4 k hk)⟩⟩
theorem PV.pgm (h : PV w0 w pb g c bv L) (hb : BlM N w b B) : PgM w ⟨some ⟨g, 0, none⟩, L.length, c⟩ ⟨some ⟨b, 0, none⟩, B.length, B.length⟩ L B :=
  ⟨rfl, rfl, h.le, Nat.le_refl _, .inr ⟨g, 0, rfl, h.sts.lt, fun j s hj => by rw [Nat.zero_add]; exact h.sts.at j s hj⟩, fun s hs => (h.sd s hs).below h.bel, .inr ⟨b, 0, rfl, hb.2.1, fun j l hj => by
    obtain ⟨r, h1, _, h3, h4⟩ := hb.2.2 j l hj
    exact ⟨_, by rw [Nat.zero_add]; exact h1, .inr ⟨r, 0, l.length, rfl, Nat.le_refl _, h4, h3⟩⟩⟩⟩
/-- the variable that holds what line has made -/
theorem PV.made {wl w1 : World} {vs : OC} (hne : L ≠ []) (hsd : ∀ s ∈ L, StD wl s) (hb1 : Below wl.heap.size wl w1) (ho : w1.ownsRow (wl.heap.size + 1) 45 33 vs.1 L.length (stCells (L.map noB))) :
    ∃ g c, vs = slOf g L.length c ∧ ∀ w2 pb bv, Row oV w2 pb 28 [slOf g L.length c, bv] → Below w1.heap.size w1 w2 → w1.heap.size ≤ pb → PV wl w2 pb g c bv (L.map noB) := by
  have hlen : L.length = (L.map noB).length := (List.length_map noB).symm
  obtain ⟨v, hv⟩ := vs
  have ho1 := ho
  rcases ho.2 with ⟨_, h0⟩ | ⟨g, cap, cur, he, hg, hcur, hc, _⟩
  · exact absurd (List.length_eq_zero_iff.1 h0) hne
  · simp only at he
    subst he
    refine ⟨g, cap, rfl, fun w2 pb bv hr hb hpb => ?_⟩
    rw [hlen] at ho1
    have hgl := (Array.getElem?_eq_some_iff.1 hcur).1
    refine ⟨by rw [← hlen]; exact hr, (Sts.of_own ho1).below hb hgl, ?_, hb1.trans (hb.mono hb1.size), ⟨by omega, Nat.le_trans hb1.size hpb⟩, by rw [← hlen]; exact hc, by omega⟩
    intro s hs
    obtain ⟨s', hs', rfl⟩ := List.mem_map.1 hs
    have := hsd s' hs'
    exact ⟨this.b, this.old, this.new, this.ys⟩
/-- two blocks as a literal -/
theorem blM2 (w : World) (l0 l1 : List Int) : ∃ W, ((w.alloc (.cells (l0.map iV).toArray 3)).alloc (.cells (l1.map iV).toArray 3)).alloc (.cells #[.slice (some ⟨w.heap.size, 0, none⟩) l0.length l0.length, .slice (some ⟨w.heap.size + 1, 0, none⟩) l1.length l1.length] 39) = W ∧ Below w.heap.size w W ∧ BlM w.heap.size W (w.heap.size + 2) [l0, l1] := by
  obtain ⟨W, hW, h0, h1, h2, hs, hB⟩ : ∃ W, ((w.alloc (.cells (l0.map iV).toArray 3)).alloc (.cells (l1.map iV).toArray 3)).alloc (.cells #[.slice (some ⟨w.heap.size, 0, none⟩) l0.length l0.length, .slice (some ⟨w.heap.size + 1, 0, none⟩) l1.length l1.length] 39) = W ∧ Row iV W w.heap.size 3 l0 ∧ Row iV W (w.heap.size + 1) 3 l1 ∧ Row oV W (w.heap.size + 2) 39 [slOf w.heap.size l0.length l0.length, slOf (w.heap.size + 1) l1.length l1.length] ∧ W.heap.size = w.heap.size + 3 ∧ Below w.heap.size w W := by
    refine ⟨_, rfl, ?_, ?_, ?_, by simp, below_al (below_al (below_al (Below.refl _ _) _) _) _⟩
    all_goals repeat (first | (refine heap_new' _ _ _ ?_; (simp; done)) | (refine (Below.heap_alloc _ _ _ ?_).trans ?_; · (simp <;> omega)))
  refine ⟨W, hW, hB, by omega, by omega, fun j l hj => ?_⟩
  match j, hj with
  | 0, hj => cases hj; exact ⟨w.heap.size, by rw [h2.cell?]; rfl, Nat.le_refl _, by omega, h0.at⟩
  | 1, hj => cases hj; exact ⟨w.heap.size + 1, by rw [h2.cell?]; rfl, by omega, by omega, h1.at⟩
  | j + 2, hj => simp at hj
/-- three blocks as a literal -/
theorem blM3 (w : World) (l0 l1 l2 : List Int) : ∃ W, (((w.alloc (.cells (l0.map iV).toArray 3)).alloc (.cells (l1.map iV).toArray 3)).alloc (.cells (l2.map iV).toArray 3)).alloc (.cells #[.slice (some ⟨w.heap.size, 0, none⟩) l0.length l0.length, .slice (some ⟨w.heap.size + 1, 0, none⟩) l1.length l1.length, .slice (some ⟨w.heap.size + 2, 0, none⟩) l2.length l2.length] 39) = W ∧ Below w.heap.size w W ∧ BlM w.heap.size W (w.heap.size + 3) [l0, l1, l2] := by
  obtain ⟨W, hW, h0, h1, h2, h3, hs, hB⟩ : ∃ W, (((w.alloc (.cells (l0.map iV).toArray 3)).alloc (.cells (l1.map iV).toArray 3)).alloc (.cells (l2.map iV).toArray 3)).alloc (.cells #[.slice (some ⟨w.heap.size, 0, none⟩) l0.length l0.length, .slice (some ⟨w.heap.size + 1, 0, none⟩) l1.length l1.length, .slice (some ⟨w.heap.size + 2, 0, none⟩) l2.length l2.length] 39) = W ∧ Row iV W w.heap.size 3 l0 ∧ Row iV W (w.heap.size + 1) 3 l1 ∧ Row iV W (w.heap.size + 2) 3 l2 ∧ Row oV W (w.heap.size + 3) 39 [slOf w.heap.size l0.length l0.length, slOf (w.heap.size + 1) l1.length l1.length, slOf (w.heap.size + 2) l2.length l2.length] ∧ W.heap.size = w.heap.size + 4 ∧ Below w.heap.size w W := by
    refine ⟨_, rfl, ?_, ?_, ?_, ?_, by simp, below_al (below_al (below_al (below_al (Below.refl _ _) _) _) _) _⟩
    all_goals repeat (first | (refine heap_new' _ _ _ ?_; (simp; done)) | (refine (Below.heap_alloc _ _ _ ?_).trans ?_; · (simp <;> omega)))
  refine ⟨W, hW, hB, by omega, by omega, fun j l hj => ?_⟩
  match j, hj with
  | 0, hj => cases hj; exact ⟨w.heap.size, by rw [h3.cell?]; rfl, Nat.le_refl _, by omega, h0.at⟩
  | 1, hj => cases hj; exact ⟨w.heap.size + 1, by rw [h3.cell?]; rfl, by omega, by omega, h1.at⟩
  | 2, hj => cases hj; exact ⟨w.heap.size + 2, by rw [h3.cell?]; rfl, by omega, by omega, h2.at⟩
  | j + 3, hj => simp at hj
theorem Mem.Rd.keepRow {α : Type} {f : α → Value} {r : Nat} {t : TypeId} {R : List OC} {v : Value} {l : List α} (h : Rd f w v l) (hr : Row oV w r t R) (hR : ∀ x ∈ R, ∀ y, oV x ≠ f y) (hg : w.grownBy w' (some r)) : Rd f w' v l := by
  rcases h with hn | ⟨b, o, cap, he, hc, ha, hlt⟩
  · exact .inl hn
  · refine .inr ⟨b, o, cap, he, hc, ?_, Nat.lt_of_lt_of_le hlt hg.size⟩
    intro i hi
    refine (World.cell?_of_block (a := ⟨b, o + i, none⟩) (hg.block b hlt ?_)).trans (ha i hi)
    intro e
    injection e with e
    subst e
    have h7 := ha i hi
    have h8 := hr.cell? (o + i)
    rw [h8] at h7
    rw [List.getElem?_eq_getElem hi] at h7
    rcases Nat.lt_or_ge (o + i) R.length with hk | hk
    · rw [List.getElem?_eq_getElem hk] at h7
      simp only [Option.map_some, Option.some.injEq] at h7
      exact hR _ (List.getElem_mem hk) _ h7
    · rw [List.getElem?_eq_none (by simpa using hk)] at h7; cases h7
/-- the program, after a variable of the caller's has been written -/
theorem PV.pgmRow (h : PV w0 w pb g c bv L) (hb : BlM N w b B) {r : Nat} (hr : Row oV w r 28 [on, on]) (h0 : r < w0.heap.size) (hN : r < N) (hg : w.grownBy w' (some r)) : PgM w' ⟨some ⟨g, 0, none⟩, L.length, c⟩ ⟨some ⟨b, 0, none⟩, B.length, B.length⟩ L B := by
  have h8 : ∀ x ∈ [on, on], ∀ y, oV x ≠ u8V y := by
    intro x hx y e
    simp only [List.mem_cons, List.not_mem_nil, or_false, or_self] at hx
    subst hx; cases e
  have hi : ∀ x ∈ [on, on], ∀ y, oV x ≠ iV y := by
    intro x hx y e
    simp only [List.mem_cons, List.not_mem_nil, or_false, or_self] at hx
    subst hx; cases e
  have hl := h.lo.1
  refine ⟨rfl, rfl, h.le, Nat.le_refl _, .inr ⟨g, 0, rfl, Nat.lt_of_lt_of_le h.sts.lt hg.size, fun j s hj => ?_⟩, fun s hs => ?_, .inr ⟨b, 0, rfl, Nat.lt_of_lt_of_le hb.2.1 hg.size, fun j l hj => ?_⟩⟩
  · rw [Nat.zero_add]; exact (h.sts.at j s hj).grown hg h.sts.lt (by intro e; injection e with e; omega)
  · have hd := (h.sd s hs).below h.bel
    exact ⟨hd.b.keepRow hr h8 hg, hd.old.keepRow hr h8 hg, hd.new.keepRow hr h8 hg, hd.ys.keepRow hr hi hg⟩
  · obtain ⟨q, h1, h2, h3, h4⟩ := hb.2.2 j l hj
    have hbN := hb.1
    exact ⟨_, by rw [Nat.zero_add]; exact (World.cell?_of_block (a := ⟨b, j, none⟩) (hg.block b hb.2.1 (by intro e; injection e with e; omega))).trans h1, .inr ⟨q, 0, l.length, rfl, Nat.le_refl _, h4.grown hg h3 (by intro e; injection e with e; omega), Nat.lt_of_lt_of_le h3 hg.size⟩⟩
end
end Go.Proofs.YtllomcmhkocdfaaGreatDoor

/- Programs that the resolver refuses; the zero program. -/
namespace Go.Proofs.YtllomcmhkocdfaaGreatDoor
open Go Go.RowKit Mem
set_option maxRecDepth 100000

set_option maxHeartbeats 8000000 in
theorem dValidZ (w : World) :
    Calls Tryz.prog 24 #[.agg #[.slice none 0 0, .slice none 0 0]] w fun e w' => e = .returned (.int .i64 1) ∧ Below w.heap.size w w' := by
  go_enter Tryz.func24, Tryz.ntmps24
  go_upto_region 1 with (fail)
  have hB : Below w.heap.size w (w.alloc (.cells #[.slice none 0 0, .slice none 0 0] 28)) := below_al (Below.refl _ _) _
  have p0 : (w.alloc (.cells #[.slice none 0 0, .slice none 0 0] 28)).cell? ⟨w.heap.size, 0, none⟩ = some (.slice none 0 0) := by unfold World.cell?; rw [World.alloc_heap_new]; rfl
  have p1 : (w.alloc (.cells #[.slice none 0 0, .slice none 0 0] 28)).cell? ⟨w.heap.size, 1, none⟩ = some (.slice none 0 0) := by unfold World.cell?; rw [World.alloc_heap_new]; rfl
  generalize (w.alloc (.cells #[.slice none 0 0, .slice none 0 0] 28)) = W at *
  go_wp2
  go_ret
  exact ⟨rfl, hB⟩

set_option maxHeartbeats 8000000 in
theorem rCheckZ (w : World) :
    Calls Tryz.prog 20 #[.agg #[.slice none 0 0, .slice none 0 0]] w fun e w' => ∃ a b c : OC, e = .returned (.tuple #[.agg #[oV a, oV b, oV c], .int .i64 1]) ∧ Below w.heap.size w w' := by
  go_enter Tryz.func20, Tryz.ntmps20
  go_upto_region 1 with (fail)
  obtain ⟨W, hW, hB, hs, g0, g1⟩ : ∃ W, (w.alloc (.cells #[.slice none 0 0, .slice none 0 0] 28)).alloc (.cells #[.int .i64 0, .int .i64 0, .slice none 0 0] 77) = W ∧ Below w.heap.size w W ∧ w.heap.size + 2 ≤ W.heap.size ∧ W.heap[w.heap.size]? = some (.cells #[.slice none 0 0, .slice none 0 0] 28 (0, 0)) ∧ W.heap[w.heap.size + 1]? = some (.cells #[.int .i64 0, .int .i64 0, .slice none 0 0] 77 (0, 0)) := by
    refine ⟨_, rfl, below_al (below_al (Below.refl _ _) _) _, by simp, ?_, ?_⟩
    all_goals repeat (first | (refine heap_new' _ _ _ ?_; (simp; done)) | (refine (Below.heap_alloc _ _ _ ?_).trans ?_; · (simp <;> omega)))
  rw [hW]
  clear hW
  have p0 : W.cell? ⟨w.heap.size, 0, none⟩ = some (.slice none 0 0) := by unfold World.cell?; rw [g0]; rfl
  have p1 : W.cell? ⟨w.heap.size, 1, none⟩ = some (.slice none 0 0) := by unfold World.cell?; rw [g0]; rfl
  have hZ : Row oV W (w.heap.size + 1) 77 [oi 0, oi 0, on] := g1
  clear g0 g1
  go_wp2_with fail
  refine (dValidZ W).mono ?_
  rintro e W1 ⟨rfl, hB1⟩
  replace hZ := hZ.below hB1 hZ.lt
  replace hB := hB.trans (hB1.mono hB.size)
  clear p0 p1 hB1 hs
  go_wp2_with (first
    | ((with_reducible refine store_agg (f := oV) (l := [oi 0, oi 0, on]) (l' := [oi 0, oi 0, on]) (t := 77) (C := #[.int .i64 0, .int .i64 0, .slice none 0 0]) aggInfo (.tmp 2) (.tmp 18) ?_ ?_ (w.heap.size + 1) ?_ ?_ ?_ hZ ?_ oV_one ?_); rfl; rfl; rfl; rfl; rfl; rfl; (intro Y hsY hGY hzY)))
  refine bodyPost_ret (v := .tuple #[.agg #[.int .i64 0, .int .i64 0, .slice none 0 0], .int .i64 1]) (results_agg2' (f := oV) (l := [oi 0, oi 0, on]) (t := 3) rfl _ aggInfo (w.heap.size + 1) 0 rfl hsY.at) rfl ?_
  exact ⟨oi 0, oi 0, on, rfl, hB.grown hGY hB.size (fun k e => by cases e; exact Nat.le_succ _)⟩

/-- the resolver refuses the program -/
def Refused (ss bs : Sl) (w : World) : Prop := ∀ W, Below w.heap.size w W → Calls Tryz.prog 20 #[.agg #[ss.v, bs.v]] W fun e w' => ∃ (a b c : OC) (k : Int), k ≠ 0 ∧ e = .returned (.tuple #[.agg #[oV a, oV b, oV c], .int .i64 k]) ∧ Below W.heap.size W w'
theorem Refused.below {ss bs : Sl} {w w' : World} (h : Refused ss bs w) (hb : Below w.heap.size w w') : Refused ss bs w' := fun W hW => h W (hb.trans (hW.mono hb.size))
set_option maxHeartbeats 8000000 in
theorem iReadBad (ss bs : Sl) (w : World) (hR : Refused ss bs w) (u : Value) :
    Calls Tryz.prog 19 #[.agg #[ss.v, bs.v], u] w fun e w' => e = .returned (.tuple #[.pointer none, .agg #[.bool false, .int .i64 0], .int .i64 1]) ∧ Below w.heap.size w w' := by
  have HR := Lib.hid hR
  clear hR
  show Calls _ _ #[.agg #[.slice ss.p ss.n ss.c, .slice bs.p bs.n bs.c], _] _ _
  go_enter Tryz.func19, Tryz.ntmps19
  go_upto_region 1 with (fail)
  obtain ⟨W, hW, hB, hs, g0, g1⟩ : ∃ W, (w.alloc (.cells #[.slice ss.p ss.n ss.c, .slice bs.p bs.n bs.c] 28)).alloc (.cells #[.bool false, .int .i64 0] 68) = W ∧ Below w.heap.size w W ∧ w.heap.size + 2 ≤ W.heap.size ∧ W.heap[w.heap.size]? = some (.cells #[.slice ss.p ss.n ss.c, .slice bs.p bs.n bs.c] 28 (0, 0)) ∧ W.heap[w.heap.size + 1]? = some (.cells #[.bool false, .int .i64 0] 68 (0, 0)) := by
    refine ⟨_, rfl, ((Below.refl _ _).alloc (Nat.le_refl _) _).alloc (by simp) _, by simp, ?_, ?_⟩
    all_goals repeat (first | exact heap_new' _ _ _ (by (try simp) <;> omega) | refine (Below.heap_alloc _ _ _ (by (try simp) <;> omega)).trans ?_)
  rw [hW]
  clear hW
  have p0 : W.cell? ⟨w.heap.size, 0, none⟩ = some (.slice ss.p ss.n ss.c) := by unfold World.cell?; rw [g0]; rfl
  have p1 : W.cell? ⟨w.heap.size, 1, none⟩ = some (.slice bs.p bs.n bs.c) := by unfold World.cell?; rw [g0]; rfl
  have hZ : Row oV W (w.heap.size + 1) 68 [ob false, oi 0] := g1
  clear g0 g1
  go_wp2_with fail
  refine (HR.out W hB).mono ?_
  rintro e W1 ⟨xa, xb, xc, k, hk, rfl, hB1⟩
  have hZ1 : Row oV (W1.alloc (.cells #[.int .i64 0, .int .i64 0, .slice none 0 0] 77)) W1.heap.size 77 [oi 0, oi 0, on] := Row.new _ _ rfl
  have hB2 := (hB.trans (hB1.mono hB.size)).alloc (Nat.le_trans hB.size hB1.size) (.cells #[.int .i64 0, .int .i64 0, .slice none 0 0] 77)
  have hZ2 := (hZ.below hB1 hZ.lt).alloc (.cells #[.int .i64 0, .int .i64 0, .slice none 0 0] 77)
  have hs1 := Nat.le_trans hs hB1.size
  clear hZ p0 p1
  go_upto_region 2 with (first
    | ((with_reducible refine store_agg (f := oV) (l := [oi 0, oi 0, on]) (l' := [xa, xb, xc]) (t := 77) (C := #[oV xa, oV xb, oV xc]) aggInfo (.tmp 7) (.tmp 14) ?_ ?_ W1.heap.size ?_ ?_ ?_ hZ1 ?_ oV_one ?_); rfl; rfl; rfl; rfl; rfl; rfl; intro W2 hs2 hG2 hz2))
  have hZ3 := hZ2.grown hG2 (by intro e; injection e with e; omega)
  have hB3 := hB2.grown hG2 hB2.size (fun g e => by cases e; exact Nat.le_trans hB.size hB1.size)
  clear hB hB1 hB2 hZ1 hZ2 hG2 hz2 hs2
  have hl3 := hZ3.lt
  go_wp2_with (first
    | ((with_reducible refine store_agg (f := oV) (l := [ob false, oi 0]) (l' := [ob false, oi 0]) (t := 68) (C := #[.bool false, .int .i64 0]) aggVerdict (.tmp 5) (.tmp 23) ?_ ?_ (w.heap.size + 1) ?_ ?_ ?_ hZ3 ?_ oV_one ?_); rfl; rfl; rfl; rfl; rfl; rfl; (intro Y hsY hGY hzY)))
  refine bodyPost_ret (v := .tuple #[.pointer none, .agg #[.bool false, .int .i64 0], .int .i64 1]) (results_agg3 (f := oV) (l := [ob false, oi 0]) (t := 6) (s := 4) rfl _ aggVerdict (w.heap.size + 1) 0 rfl hsY.at) rfl ?_
  exact ⟨rfl, hB3.grown hGY hB3.size (fun k e => by cases e; exact Nat.le_succ _)⟩
set_option maxHeartbeats 8000000 in
theorem iRunBad (ss bs : Sl) (w : World) (hR : Refused ss bs w) (u : Value) :
    Calls Tryz.prog 9 #[.agg #[ss.v, bs.v], u] w fun e w' => e = .returned (.tuple #[.agg #[.bool false, .int .i64 0, .slice none 0 0], .int .i64 1]) ∧ Below w.heap.size w w' := by
  have HR := Lib.hid hR
  clear hR
  show Calls _ _ #[.agg #[.slice ss.p ss.n ss.c, .slice bs.p bs.n bs.c], _] _ _
  go_enter Tryz.func9, Tryz.ntmps9
  go_upto_region 1 with (fail)
  obtain ⟨W, hW, hB, hs, g0, g1⟩ : ∃ W, (w.alloc (.cells #[.slice ss.p ss.n ss.c, .slice bs.p bs.n bs.c] 28)).alloc (.cells #[.bool false, .int .i64 0, .slice none 0 0] 49) = W ∧ Below w.heap.size w W ∧ w.heap.size + 2 ≤ W.heap.size ∧ W.heap[w.heap.size]? = some (.cells #[.slice ss.p ss.n ss.c, .slice bs.p bs.n bs.c] 28 (0, 0)) ∧ W.heap[w.heap.size + 1]? = some (.cells #[.bool false, .int .i64 0, .slice none 0 0] 49 (0, 0)) := by
    refine ⟨_, rfl, ((Below.refl _ _).alloc (Nat.le_refl _) _).alloc (by simp) _, by simp, ?_, ?_⟩
    all_goals repeat (first | exact heap_new' _ _ _ (by (try simp) <;> omega) | refine (Below.heap_alloc _ _ _ (by (try simp) <;> omega)).trans ?_)
  rw [hW]
  clear hW
  have p0 : W.cell? ⟨w.heap.size, 0, none⟩ = some (.slice ss.p ss.n ss.c) := by unfold World.cell?; rw [g0]; rfl
  have p1 : W.cell? ⟨w.heap.size, 1, none⟩ = some (.slice bs.p bs.n bs.c) := by unfold World.cell?; rw [g0]; rfl
  have hZ : Row oV W (w.heap.size + 1) 49 [ob false, oi 0, on] := g1
  clear g0 g1
  go_wp2_with fail
  refine (iReadBad ss bs W (HR.out.below hB) u).mono ?_
  rintro e W1 ⟨rfl, hB1⟩
  replace hZ := (hZ.below hB1 hZ.lt).alloc (.cells #[.bool false, .int .i64 0] 68)
  replace hB := (hB.trans (hB1.mono hB.size)).alloc (Nat.le_trans hB.size hB1.size) (.cells #[.bool false, .int .i64 0] 68)
  have hs1 := Nat.le_trans hs hB1.size
  clear p0 p1 hB1 hs
  go_upto_region 2 with (fail)
  generalize (W1.alloc (.cells #[.bool false, .int .i64 0] 68)) = W2 at hZ hB ⊢
  have hl2 := hZ.lt
  go_wp2_with (first
    | ((with_reducible refine store_agg (f := oV) (l := [ob false, oi 0, on]) (l' := [ob false, oi 0, on]) (t := 49) (C := #[.bool false, .int .i64 0, .slice none 0 0]) aggRecord (.tmp 4) (.tmp 19) ?_ ?_ (w.heap.size + 1) ?_ ?_ ?_ hZ ?_ oV_one ?_); rfl; rfl; rfl; rfl; rfl; rfl; (intro Y hsY hGY hzY)))
  refine bodyPost_ret (v := .tuple #[.agg #[.bool false, .int .i64 0, .slice none 0 0], .int .i64 1]) (results_agg2' (f := oV) (l := [ob false, oi 0, on]) (t := 5) rfl _ aggRecord (w.heap.size + 1) 0 rfl hsY.at) rfl ?_
  exact ⟨rfl, hB.grown hGY hB.size (fun k e => by cases e; exact Nat.le_succ _)⟩
theorem refusedZ (w : World) : Refused Sl.z Sl.z w := fun W _ => (rCheckZ W).mono (by
  rintro e w' ⟨a, b, c, rfl, hB⟩
  exact ⟨a, b, c, 1, by decide, rfl, hB⟩)
end Go.Proofs.YtllomcmhkocdfaaGreatDoor
