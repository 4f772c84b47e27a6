/- normal.Meets for a question of two programs of one statement that append the same field. -/
import Derived.Test.YtgflelodpcgmbaaGreatDoorMKeeps
import Derived.Test.YtgflelodpcgmbaaGreatDoorMWordsF
import Derived.Test.YtgflelodpcgmbaaGreatDoorMZero
import Derived.Test.YtgflelodpcgmbaaGreatDoorMOwnIn
namespace Go.Proofs.YtgflelodpcgmbaaGreatDoor
open Go Go.RowKit Go.Shelf Mem
attribute [local go_sem] Oper.semAt_some
set_option maxRecDepth 100000

/-- whether a normalizer accepts a word and does not change it -/
def NZ.kept (N : NZ) (x : Sc.Wd) : Bool := N.acc x && (x == N.outp x)

set_option maxHeartbeats 16000000 in
theorem nMeets (w : World) (N : NZ) (pc pr pe p1 p2 p3 p4 : Option Addr) (kc kr ke n1 k1 n2 k2 n3 k3 n4 k4 ba oa ka : Nat) (al : List UInt8) (most : Nat) (nm : ByteArray) (HN : Hid (NameOK nm))
    (hv : NzAt w (.agg #[.slice pc N.cls.length kc, .slice pr N.rows.length kr, .slice pe N.ends.length ke]) N) (hA : FP w (.agg #[.slice p1 n1 k1, .slice p2 n2 k2]) nm) (hA' : FP w (.agg #[.slice p3 n3 k3, .slice p4 n4 k4]) nm)
    (hva : Rd u8V w (.slice (some ⟨ba, oa, none⟩) al.length ka) al) (_hlb : ba < w.heap.size) (ha : 1 ≤ al.length ∧ al.length ≤ 4) (hm : most ≤ 8) (hinc : ∀ i (h : i + 1 < al.length), al[i].toNat < al[i + 1].toNat) (hcov : N.Cov) (hval : N.valid = true) (hok : scopeErr al most = 0) :
    Calls Tryz.prog 27 #[.agg #[.slice pc N.cls.length kc, .slice pr N.rows.length kr, .slice pe N.ends.length ke], .agg #[.slice p1 n1 k1, .slice p2 n2 k2, .slice p3 n3 k3, .slice p4 n4 k4, .slice (some ⟨ba, oa, none⟩) al.length ka, .int .i64 most]] w fun e w' => ∃ (u : OC) (b : Bool), e = .returned (.tuple #[oV u, .bool b, .int .i64 0]) ∧ Below w.heap.size w w' ∧
      ((b = true ∧ ∀ x ∈ Sc.upTo al (most + 1), N.kept x = true) ∨ (b = false ∧ ∃ pre x, pre ++ [x] <+: Sc.upTo al (most + 1) ∧ (∀ y ∈ pre, N.kept y = true) ∧ N.kept x = false ∧ Rd u8V w' (oV u) x)) := by
  have HV := Lib.hid hv
  have HVA := Lib.hid hva
  have HA := Lib.hid hA
  have HA' := Lib.hid hA'
  clear hv hva hA hA'
  refine (callsIn_wide (n := 5)).1 ?_
  refine callsIn_of_wp_marks Tryz.func27 rfl trivial ?_ rfl
  simp only [Tryz.ntmps27, List.size_toArray, List.length_cons, List.length_nil, Nat.reduceAdd, Nat.reduceSub, Array.replicate_succ, Array.replicate_zero, List.push_toArray, List.append_toArray, List.nil_append, List.cons_append]
  obtain ⟨W, hW, hB, hs, g0, g1, g2, g3, g4⟩ : ∃ W, (((((w.alloc (.cells #[.slice pc N.cls.length kc, .slice pr N.rows.length kr, .slice pe N.ends.length ke] 26)).alloc (.cells #[.slice p1 n1 k1, .slice p2 n2 k2, .slice p3 n3 k3, .slice p4 n4 k4, .slice (some ⟨ba, oa, none⟩) al.length ka, .int .i64 most] 65)).alloc (.cells #[.slice none 0 0] 29)).alloc (.cells #[.bool false] 4)).alloc (.cells #[.int .i64 0] 45)) = W ∧ Below w.heap.size w W ∧ W.heap.size = w.heap.size + 5 ∧ W.heap[w.heap.size]? = some (.cells #[.slice pc N.cls.length kc, .slice pr N.rows.length kr, .slice pe N.ends.length ke] 26 (0, 0)) ∧ W.heap[w.heap.size + 1]? = some (.cells #[.slice p1 n1 k1, .slice p2 n2 k2, .slice p3 n3 k3, .slice p4 n4 k4, .slice (some ⟨ba, oa, none⟩) al.length ka, .int .i64 most] 65 (0, 0)) ∧ Row oV W (w.heap.size + 2) 29 [on] ∧ Row oV W (w.heap.size + 3) 4 [ob false] ∧ Row oV W (w.heap.size + 4) 45 [oi 0] := by
    refine ⟨_, rfl, below_al (below_al (below_al (below_al (below_al (Below.refl _ _) (Nat.le_refl _) _) (Nat.le_refl _) _) (Nat.le_refl _) _) (Nat.le_refl _) _) (Nat.le_refl _) _, by simp, ?_, ?_, ?_, ?_, ?_⟩
    all_goals repeat (first | (refine heap_new' _ _ _ ?_; (simp; done)) | (refine (Below.heap_alloc _ _ _ ?_).trans ?_; · (simp <;> omega)))
  have HC : Hid (∀ X : World, Below W.heap.size W X → (X.cell? ⟨w.heap.size, 0, none⟩ = some (.slice pc N.cls.length kc) ∧ X.cell? ⟨w.heap.size, 1, none⟩ = some (.slice pr N.rows.length kr) ∧ X.cell? ⟨w.heap.size, 2, none⟩ = some (.slice pe N.ends.length ke)) ∧ X.cell? ⟨w.heap.size + 1, 0, none⟩ = some (.slice p1 n1 k1) ∧ X.cell? ⟨w.heap.size + 1, 1, none⟩ = some (.slice p2 n2 k2) ∧ X.cell? ⟨w.heap.size + 1, 2, none⟩ = some (.slice p3 n3 k3) ∧ X.cell? ⟨w.heap.size + 1, 3, none⟩ = some (.slice p4 n4 k4) ∧ X.cell? ⟨w.heap.size + 1, 4, none⟩ = some (.slice (some ⟨ba, oa, none⟩) al.length ka) ∧ X.cell? ⟨w.heap.size + 1, 5, none⟩ = some (.int .i64 most)) := Lib.hid fun X hX => by
    have h1 := (hX.block w.heap.size (by omega)).trans g0
    have h2 := (hX.block (w.heap.size + 1) (by omega)).trans g1
    refine ⟨⟨?_, ?_, ?_⟩, ?_, ?_, ?_, ?_, ?_, ?_⟩ <;> (unfold World.cell?; first | (rw [h1]; rfl) | (rw [h2]; rfl))
  obtain ⟨⟨c0, c1, c2⟩, q0, q1, q2, q3, q4, q5⟩ := HC.out W (Below.refl _ _)
  have HG := Lib.hid (And.intro g0 (And.intro g1 (And.intro g2 (And.intro g3 g4))))
  clear g0 g1 g2 g3 g4
  gi_wp2_with fail
  clear hW
  refine ⟨trivial, ?_⟩
  have hW : Below W.heap.size W W := Below.refl _ _
  refine (callsIn_wide.2 (rCheck1 W _ nm HN (HA.out.below (hB.trans (hW.mono hB.size))))).mono ?_
  rintro e W1 ⟨a1, b1, i1, rfl, hB1⟩
  clear c0 c1 c2 q0 q1 q2 q3 q4 q5
  have hZ1 : Row oV (W1.alloc (.cells #[.int .i64 0, .int .i64 0, .slice none 0 0] 108)) W1.heap.size 108 [oi 0, oi 0, on] := Row.new _ _ rfl
  have hY1 : Below W.heap.size W W1 := hW.trans (hB1.mono hW.size)
  gi_wp2_with (((with_reducible refine store_agg_in (f := oV) (l := [oi 0, oi 0, on]) (l' := [a1, b1, i1]) (t := 108) (C := #[oV a1, oV b1, oV i1]) aggInfo (.tmp 7) (.tmp 17) ?_ ?_ W1.heap.size ?_ ?_ ?_ hZ1 ?_ oV_one ?_); rfl; rfl; rfl; rfl; rfl; rfl; (intro X1 hs1 hG1 hz1); (refine Pause.back ?_)))
  have hX1 : Below W.heap.size W X1 := below_row hY1 hG1
  clear hZ1 hs1 hG1 hz1 hB1 hW hY1
  generalize W1.heap.size = m1 at *
  obtain ⟨⟨c0, c1, c2⟩, q0, q1, q2, q3, q4, q5⟩ := HC.out X1 hX1
  refine Pause.out ?_
  gi_wp2_with fail
  refine ⟨trivial, ?_⟩
  refine (callsIn_wide.2 (rCheck1 X1 _ nm HN (HA'.out.below (hB.trans (hX1.mono hB.size))))).mono ?_
  rintro e W2 ⟨a2, b2, i2, rfl, hB2⟩
  clear c0 c1 c2 q0 q1 q2 q3 q4 q5
  have hZ2 : Row oV (W2.alloc (.cells #[.int .i64 0, .int .i64 0, .slice none 0 0] 108)) W2.heap.size 108 [oi 0, oi 0, on] := Row.new _ _ rfl
  have hY2 : Below W.heap.size W W2 := hX1.trans (hB2.mono hX1.size)
  gi_wp2_with (((with_reducible refine store_agg_in (f := oV) (l := [oi 0, oi 0, on]) (l' := [a2, b2, i2]) (t := 108) (C := #[oV a2, oV b2, oV i2]) aggInfo (.tmp 9) (.tmp 23) ?_ ?_ W2.heap.size ?_ ?_ ?_ hZ2 ?_ oV_one ?_); rfl; rfl; rfl; rfl; rfl; rfl; (intro X2 hs2 hG2 hz2); (refine Pause.back ?_)))
  have hX2 : Below W.heap.size W X2 := below_row hY2 hG2
  clear hZ2 hs2 hG2 hz2 hB2 hX1 hY2
  generalize W2.heap.size = m2 at *
  obtain ⟨⟨c0, c1, c2⟩, q0, q1, q2, q3, q4, q5⟩ := HC.out X2 hX2
  refine Pause.out ?_
  gi_wp2_with fail
  refine ⟨trivial, ?_⟩
  refine (callsIn_wide.2 (nValid X2 _ N (HV.out.below (hB.trans (hX2.mono hB.size))))).mono ?_
  rintro e X3 ⟨rfl, hB3⟩
  rw [hval]
  have hX3 : Below W.heap.size W X3 := hX2.trans (hB3.mono hX2.size)
  clear c0 c1 c2 q0 q1 q2 q3 q4 q5 hX2 hB3
  obtain ⟨⟨c0, c1, c2⟩, q0, q1, q2, q3, q4, q5⟩ := HC.out X3 hX3
  gi_wp2_with fail
  refine ⟨trivial, ?_⟩
  refine (callsIn_wide.2 (nCheckScope X3 _ al most (HVA.out.below (hB.trans (hX3.mono hB.size))) ha hm hinc)).mono ?_
  rintro e X4 ⟨rfl, hB4⟩
  rw [hok]
  have hX4 : Below W.heap.size W X4 := hX3.trans (hB4.mono hX3.size)
  clear c0 c1 c2 q0 q1 q2 q3 q4 q5 hX3 hB4
  obtain ⟨⟨c0, c1, c2⟩, q0, q1, q2, q3, q4, q5⟩ := HC.out X4 hX4
  gi_wp2_with fail
  refine ⟨trivial, ?_⟩
  refine (callsIn_wide.2 (nWords X4 _ most _ _ _ rfl)).mono ?_
  rintro e X5 ⟨rfl, rfl⟩
  have hX5 := below_al hX4 (Nat.le_refl _) (.cells #[.slice (some ⟨ba, oa, none⟩) al.length ka, .int .i64 most] 42)
  have rs5 : (X4.alloc (.cells #[.slice (some ⟨ba, oa, none⟩) al.length ka, .int .i64 most] 42)).heap[X4.heap.size]? = some (.cells #[.slice (some ⟨ba, oa, none⟩) al.length ka, .int .i64 most] 42 (0, 0)) := World.alloc_heap_new _ _
  have hl5 : (X4.alloc (.cells #[.slice (some ⟨ba, oa, none⟩) al.length ka, .int .i64 most] 42)).heap.size = X4.heap.size + 1 := by simp
  have hl4 : w.heap.size + 5 ≤ X4.heap.size := by have := hX4.size; omega
  clear c0 c1 c2 q0 q1 q2 q3 q4 q5 hX4
  generalize (X4.alloc (.cells #[.slice (some ⟨ba, oa, none⟩) al.length ka, .int .i64 most] 42)) = X5 at *
  generalize X4.heap.size = sb at *
  gi_wp2_with fail
  have hw5 := hB.trans (hX5.mono hB.size)
  obtain ⟨g0, g1, g2, g3, g4⟩ := HG.out
  replace g0 := (hX5.block _ (by omega)).trans g0
  replace g1 := (hX5.block _ (by omega)).trans g1
  replace g2 := g2.below hX5 (by omega)
  replace g3 := g3.below hX5 (by omega)
  replace g4 := g4.below hX5 (by omega)
  generalize hn : w.heap.size = n at *
  clear HC HG hs hX5 hB X1 X2 X3
  have hseq := wordsSeq 4 (by omega) X5 al most (.slice (some ⟨ba, oa, none⟩) al.length ka) sb (fun _ => False) (by unfold World.cell?; rw [rs5]; rfl) (by unfold World.cell?; rw [rs5]; rfl) (HVA.out.below (hn ▸ hw5)) (by omega) (fun h => h) (fun b o n c h k => k) (fun r h k => k) ha hm
  refine rangeS rfl (by omega) (gf := 75) (lb := #[.pointer (some ⟨sb, 0, none⟩)]) rfl trivial (enters_of Tryz.func75 (by kernel_rfl) rfl) hseq (fun h k => h.trans k) (fun W l o o' hl h hc _ => keepPutD _ W l o o' h hc) (scG_put al most) (Below.refl _ _) (fun _ => rfl)
    (fun pre X => (∀ y ∈ pre, N.kept y.1 = true) ∧ Below n w X ∧ n + 5 ≤ X.heap.size ∧ X.heap[n]? = some (.cells #[.slice pc N.cls.length kc, .slice pr N.rows.length kr, .slice pe N.ends.length ke] 26 (0, 0)) ∧ X.heap[n + 1]? = some (.cells #[.slice p1 n1 k1, .slice p2 n2 k2, .slice p3 n3 k3, .slice p4 n4 k4, .slice (some ⟨ba, oa, none⟩) al.length ka, .int .i64 most] 65 (0, 0)) ∧ Row oV X (n + 2) 29 [on] ∧ Row oV X (n + 3) 4 [ob false] ∧ Row oV X (n + 4) 45 [oi 0])
    (fun c pre X => c = .ret ∧ ∃ (u : OC) (p : List (Sc.Wd × Value)) (x : Sc.Wd × Value), pre = p ++ [x] ∧ (∀ y ∈ p, N.kept y.1 = true) ∧ N.kept x.1 = false ∧ Mem.Own u8V X (n + 5) 5 (oV u) x.1 ∧ Below n w X ∧ n + 5 ≤ X.heap.size ∧ Row oV X (n + 2) 29 [u] ∧ Row oV X (n + 3) 4 [ob false] ∧ Row oV X (n + 4) 45 [oi 0])
    ?hI ?hIx ?hIb ?hIxb ⟨(fun y h => by cases h), hw5, by omega, g0, g1, g2, g3, g4⟩
    (fun x => { tmps := #[.agg #[.slice pc N.cls.length kc, .slice pr N.rows.length kr, .slice pe N.ends.length ke], .agg #[.slice p1 n1 k1, .slice p2 n2 k2, .slice p3 n3 k3, .slice p4 n4 k4, .slice (some ⟨ba, oa, none⟩) al.length ka, .int .i64 most], .pointer (some ⟨n, 0, none⟩), .pointer (some ⟨n + 1, 0, none⟩), .pointer (some ⟨n + 1 + 1, 0, none⟩), .pointer (some ⟨n + 1 + 1 + 1, 0, none⟩), .pointer (some ⟨n + 1 + 1 + 1 + 1, 0, none⟩), .pointer (some ⟨m1, 0, none⟩), .int .i64 0, .pointer (some ⟨m2, 0, none⟩), .int .i64 0, .int .i64 0, x.2, .tuple #[.agg #[oV a1, oV b1, oV i1], .int .i64 0], .pointer (some ⟨n + 1, 0, none⟩), .agg #[.slice p1 n1 k1, .slice p2 n2 k2], .tuple #[.agg #[oV a1, oV b1, oV i1], .int .i64 0], .agg #[oV a1, oV b1, oV i1], .int .i64 0, .tuple #[.agg #[oV a2, oV b2, oV i2], .int .i64 0], .pointer (some ⟨n + 1, 2, none⟩), .agg #[.slice p3 n3 k3, .slice p4 n4 k4], .tuple #[.agg #[oV a2, oV b2, oV i2], .int .i64 0], .agg #[oV a2, oV b2, oV i2], .int .i64 0, .agg #[.slice pc N.cls.length kc, .slice pr N.rows.length kr, .slice pe N.ends.length ke], .bool true, .bool false, .bool false, .int .i64 0, .bool false, .bool false, .bool false, .int .i64 0, .bool false, .bool false, .pointer (some ⟨n + 1, 4, none⟩), .agg #[.slice (some ⟨ba, oa, none⟩) al.length ka, .int .i64 most], .int .i64 0, .int .i64 0, .bool false, undef, .pointer (some ⟨n + 1, 4, none⟩), .agg #[.slice (some ⟨ba, oa, none⟩) al.length ka, .int .i64 most], .func (.func 75) #[] #[.pointer (some ⟨sb, 0, none⟩)], x.2, undef, undef, undef, undef, undef, undef, undef], defers := [] }) ?assign ?body ?done ?stop
  case hI =>
    rintro pre A B row ⟨h0, h1, h2, h3, h4, h5, h6, h7⟩ hgr hrow
    have hne : ∀ b, b < n + 5 → some b ≠ row := fun b hb e => by have := (hrow _ e.symm).1; omega
    exact ⟨h0, h1.grown hgr (by omega) (fun k e => by have := (hrow _ e).1; omega), Nat.le_trans h2 hgr.size, (hgr.block _ (by omega) (hne _ (by omega))).trans h3, (hgr.block _ (by omega) (hne _ (by omega))).trans h4, h5.grown hgr (hne _ (by omega)), h6.grown hgr (hne _ (by omega)), h7.grown hgr (hne _ (by omega))⟩
  case hIx =>
    rintro c pre A B row ⟨rfl, u, p, x, rfl, h0, h1, h2, h3, h4, h5, h6, h7⟩ hgr hrow
    have hne : ∀ b, b < n + 5 → some b ≠ row := fun b hb e => by have := (hrow _ e.symm).1; omega
    have hnu : ∀ g, (oV u).ownBlock = some g → some g ≠ row := fun g hg e => by
      obtain ⟨o, ho, hc⟩ := (hrow _ e.symm).2
      rcases h2.2 with ⟨h9, _⟩ | ⟨g', c', cur, h9, _, hc9, _⟩
      · rw [h9] at hg; cases hg
      · rw [h9] at hg; injection hg with hg; subst hg; rw [ho] at hc9; injection hc9 with hc9; subst hc9; cases hc
    exact ⟨rfl, u, p, x, rfl, h0, h1, h2.grown' hgr hnu, h3.grown hgr (by omega) (fun k e => by have := (hrow _ e).1; omega), Nat.le_trans h4 hgr.size, h5.grown hgr (hne _ (by omega)), h6.grown hgr (hne _ (by omega)), h7.grown hgr (hne _ (by omega))⟩
  case hIb =>
    rintro pre A B ⟨h0, h1, h2, h3, h4, h5, h6, h7⟩ hb
    have hb' : Below (n + 5) A B := hb.mono (by omega)
    exact ⟨h0, h1.trans (hb'.mono (by omega)), Nat.le_trans h2 hb.size, (hb'.block _ (by omega)).trans h3, (hb'.block _ (by omega)).trans h4, h5.below hb' (by omega), h6.below hb' (by omega), h7.below hb' (by omega)⟩
  case hIxb =>
    rintro c pre A B ⟨rfl, u, p, x, rfl, h0, h1, h2, h3, h4, h5, h6, h7⟩ hb
    exact ⟨rfl, u, p, x, rfl, h0, h1, h2.below' hb, h3.trans (hb.mono (by omega)), Nat.le_trans h4 hb.size, h5.below hb h5.lt, h6.below hb h6.lt, h7.below hb h7.lt⟩
  case assign =>
    intro l x W K hK
    gi_wp2
    exact hK
  case body =>
    rintro l pre ⟨xw, xv⟩ X ⟨hk0, hBw, hsz, hn0, hn1, r2, r3, r4⟩ ⟨hrd, hpf⟩
    simp only at hrd hpf
    obtain ⟨px, kx, rfl⟩ := hrd.slice
    have HI := Lib.hid (And.intro hk0 (And.intro hBw (And.intro hsz (And.intro hn0 (And.intro hn1 (And.intro r2 (And.intro r3 r4)))))))
    obtain ⟨c0, c1, c2⟩ : X.cell? ⟨n, 0, none⟩ = some (.slice pc N.cls.length kc) ∧ X.cell? ⟨n, 1, none⟩ = some (.slice pr N.rows.length kr) ∧ X.cell? ⟨n, 2, none⟩ = some (.slice pe N.ends.length ke) := by
      refine ⟨?_, ?_, ?_⟩ <;> (unfold World.cell?; rw [hn0]; rfl)
    obtain ⟨q0, q1, q2, q3, q4, q5⟩ : X.cell? ⟨n + 1, 0, none⟩ = some (.slice p1 n1 k1) ∧ X.cell? ⟨n + 1, 1, none⟩ = some (.slice p2 n2 k2) ∧ X.cell? ⟨n + 1, 2, none⟩ = some (.slice p3 n3 k3) ∧ X.cell? ⟨n + 1, 3, none⟩ = some (.slice p4 n4 k4) ∧ X.cell? ⟨n + 1, 4, none⟩ = some (.slice (some ⟨ba, oa, none⟩) al.length ka) ∧ X.cell? ⟨n + 1, 5, none⟩ = some (.int .i64 most) := by
      refine ⟨?_, ?_, ?_, ?_, ?_, ?_⟩ <;> (unfold World.cell?; rw [hn1]; rfl)
    have hxl : xw.length ≤ 4096 := by
      have h1 := mem_upTo al (most + 1) xw (hpf.subset (by simp))
      omega
    have hBw' : Below w.heap.size w X := hn ▸ hBw
    have hc3 := nKeeps X N pc pr pe px p1 p2 p3 p4 (some ⟨ba, oa, none⟩) kc kr ke kx n1 k1 n2 k2 n3 k3 n4 k4 al.length ka most nm HN xw (HV.out.below hBw') (HA.out.below hBw') (HA'.out.below hBw') hrd hxl hcov
    have HRD := Lib.hid hrd
    clear hk0 hBw hsz hn0 hn1 r2 r3 r4 hpf hBw' hrd
    gi_wp2_with fail
    refine ⟨trivial, ?_⟩
    refine (CallsIn.inRound l (callsIn_wide.2 hc3)).mono ?_
    rintro e X6 ⟨rfl, hB6⟩
    clear hc3 c0 c1 c2 q0 q1 q2 q3 q4 q5
    obtain ⟨hk0, hBw, hsz, hn0, hn1, r2, r3, r4⟩ := HI.out
    cases hkept : (N.acc xw && (xw == N.outp xw)) with
    | true =>
      have HF : Hid ((∀ y ∈ pre ++ [(xw, Value.slice px xw.length kx)], N.kept y.1 = true) ∧ KeepsOthers X X6 ∧ KeepC (fun _ => False) X X6 ∧ Below n w X6 ∧ n + 5 ≤ X6.heap.size ∧ X6.heap[n]? = some (.cells #[.slice pc N.cls.length kc, .slice pr N.rows.length kr, .slice pe N.ends.length ke] 26 (0, 0)) ∧ X6.heap[n + 1]? = some (.cells #[.slice p1 n1 k1, .slice p2 n2 k2, .slice p3 n3 k3, .slice p4 n4 k4, .slice (some ⟨ba, oa, none⟩) al.length ka, .int .i64 most] 65 (0, 0)) ∧ Row oV X6 (n + 2) 29 [on] ∧ Row oV X6 (n + 3) 4 [ob false] ∧ Row oV X6 (n + 4) 45 [oi 0]) := Lib.hid (by
        refine ⟨fun y hy => ?_, others_below hB6, KeepC.ofBelow hB6, hBw.trans (hB6.mono (by omega)), Nat.le_trans hsz hB6.size, (hB6.block _ (by omega)).trans hn0, (hB6.block _ (by omega)).trans hn1, r2.below hB6 r2.lt, r3.below hB6 r3.lt, r4.below hB6 r4.lt⟩
        rcases List.mem_append.1 hy with h | h
        · exact hk0 y h
        · rw [List.mem_singleton] at h; subst h; exact hkept)
      clear hkept hk0 hBw hsz hn0 hn1 r2 r3 r4 hB6 HI
      gi_wp2
      obtain ⟨z0, z1, z2, z3⟩ := HF.out
      exact ⟨z1, z2, z0, z3⟩
    | false =>
      have HKE := Lib.hid hkept
      have hrd6 := HRD.out.below hB6
      replace hBw := hBw.trans (hB6.mono (show n ≤ X.heap.size by omega))
      have hsz6 := Nat.le_trans hsz hB6.size
      replace r2 := r2.below hB6 r2.lt
      replace r3 := r3.below hB6 r3.lt
      replace r4 := r4.below hB6 r4.lt
      have ho6 := others_below hB6
      clear hkept hn0 hn1 hB6 HI hsz
      gi_wp2_with fail
      refine ⟨trivial, ?_⟩
      refine (CallsIn.inRound l (callsIn_wide.2 (clone8 X6 _ xw hrd6 (by omega)))).mono ?_
      rintro e X7 ⟨u, rfl, hO, hB7⟩
      obtain ⟨pu, ku, rfl⟩ := hO.slice
      replace hBw := hBw.trans (hB7.mono (show n ≤ X6.heap.size by omega))
      replace hO := hO.mono hsz6
      replace hsz6 := Nat.le_trans hsz6 hB7.size
      replace r2 := r2.below hB7 r2.lt
      replace r3 := r3.below hB7 r3.lt
      replace r4 := r4.below hB7 r4.lt
      replace ho6 := ho6.trans (others_below hB7)
      clear hB7 hrd6
      have f2 := r2.frozen 0
      have f3 := r3.frozen 0
      have f4 := r4.frozen 0
      have d2 : X7.cell? ⟨n + 1 + 1, 0, none⟩ = some (.slice none 0 0) := by rw [r2.cell?]; rfl
      have d3 : X7.cell? ⟨n + 1 + 1 + 1, 0, none⟩ = some (.bool false) := by rw [r3.cell?]; rfl
      have d4 : X7.cell? ⟨n + 1 + 1 + 1 + 1, 0, none⟩ = some (.int .i64 0) := by rw [r4.cell?]; rfl
      have e2 : Row oV (((X7.setCell ⟨n + 1 + 1, 0, none⟩ (.slice pu xw.length ku)).setCell ⟨n + 1 + 1 + 1, 0, none⟩ (.bool false)).setCell ⟨n + 1 + 1 + 1 + 1, 0, none⟩ (.int .i64 0)) (n + 2) 29 [⟨.slice pu xw.length ku, rfl⟩] := ((r2.set 0 ⟨.slice pu xw.length ku, rfl⟩).set_other (b' := n + 1 + 1 + 1) (by omega) 0 _).set_other (b' := n + 1 + 1 + 1 + 1) (by omega) 0 _
      have e3 : Row oV (((X7.setCell ⟨n + 1 + 1, 0, none⟩ (.slice pu xw.length ku)).setCell ⟨n + 1 + 1 + 1, 0, none⟩ (.bool false)).setCell ⟨n + 1 + 1 + 1 + 1, 0, none⟩ (.int .i64 0)) (n + 3) 4 [ob false] := ((r3.set_other (b' := n + 1 + 1) (by omega) 0 _).set 0 (ob false)).set_other (b' := n + 1 + 1 + 1 + 1) (by omega) 0 _
      have e4 : Row oV (((X7.setCell ⟨n + 1 + 1, 0, none⟩ (.slice pu xw.length ku)).setCell ⟨n + 1 + 1 + 1, 0, none⟩ (.bool false)).setCell ⟨n + 1 + 1 + 1 + 1, 0, none⟩ (.int .i64 0)) (n + 4) 45 [oi 0] := ((r4.set_other (b' := n + 1 + 1) (by omega) 0 _).set_other (b' := n + 1 + 1 + 1) (by omega) 0 _).set 0 (oi 0)
      have hOa : ∀ (Y : World) (b : Nat) (v : Value), n + 5 > b → Mem.Own u8V Y (n + 5) 5 (.slice pu xw.length ku) xw → Mem.Own u8V (Y.setCell ⟨b, 0, none⟩ v) (n + 5) 5 (.slice pu xw.length ku) xw := fun Y b v hb h =>
        h.grown' (grown_set (grown_of_below (Below.refl _ _) (some b)) 0 v) (fun g hg e => by injection e with e; have := (h.lt g hg).1; omega)
      have e5 := hOa _ (n + 1 + 1 + 1 + 1) (.int .i64 0) (by omega) (hOa _ (n + 1 + 1 + 1) (.bool false) (by omega) (hOa _ (n + 1 + 1) (.slice pu xw.length ku) (by omega) hO))
      have e6 := below_set (below_set (below_set hBw (b := n + 1 + 1) 0 (by omega) (.slice pu xw.length ku)) (b := n + 1 + 1 + 1) 0 (by omega) (.bool false)) (b := n + 1 + 1 + 1 + 1) 0 (by omega) (.int .i64 0)
      have e7 : n + 5 ≤ (((X7.setCell ⟨n + 1 + 1, 0, none⟩ (.slice pu xw.length ku)).setCell ⟨n + 1 + 1 + 1, 0, none⟩ (.bool false)).setCell ⟨n + 1 + 1 + 1 + 1, 0, none⟩ (.int .i64 0)).heap.size := by simpa using hsz6
      have e8 := ((ho6.trans (KeepsOthers.setCell _ ⟨n + 1 + 1, 0, none⟩ (.slice pu xw.length ku))).trans (KeepsOthers.setCell _ ⟨n + 1 + 1 + 1, 0, none⟩ (.bool false))).trans (KeepsOthers.setCell _ ⟨n + 1 + 1 + 1 + 1, 0, none⟩ (.int .i64 0))
      have HF := Lib.hid (And.intro e2 (And.intro e3 (And.intro e4 (And.intro e5 (And.intro e6 (And.intro e7 (And.intro e8 hk0)))))))
      clear e2 e3 e4 e5 e6 e7 e8 hk0 hOa r2 r3 r4 hO hBw ho6 hsz6
      gi_wp2
      obtain ⟨e2, e3, e4, e5, e6, e7, e8, hk0⟩ := HF.out
      exact ⟨e8, rfl, ⟨.slice pu xw.length ku, rfl⟩, pre, (xw, .slice px xw.length kx), rfl, hk0, HKE.out, e5, e6, e7, e2, e3, e4⟩
  case done =>
    rintro D xs X hD hS ⟨hk0, hBw, hsz, hn0, hn1, r2, r3, r4⟩ hKD
    have f2 := r2.frozen 0
    have f3 := r3.frozen 0
    have f4 := r4.frozen 0
    have d2 : X.cell? ⟨n + 1 + 1, 0, none⟩ = some (.slice none 0 0) := by rw [r2.cell?]; rfl
    have d3 : X.cell? ⟨n + 1 + 1 + 1, 0, none⟩ = some (.bool false) := by rw [r3.cell?]; rfl
    have d4 : X.cell? ⟨n + 1 + 1 + 1 + 1, 0, none⟩ = some (.int .i64 0) := by rw [r4.cell?]; rfl
    have e2 : Row oV (((X.setCell ⟨n + 1 + 1, 0, none⟩ (.slice none 0 0)).setCell ⟨n + 1 + 1 + 1, 0, none⟩ (.bool true)).setCell ⟨n + 1 + 1 + 1 + 1, 0, none⟩ (.int .i64 0)) (n + 2) 29 [on] := ((r2.set 0 on).set_other (b' := n + 1 + 1 + 1) (by omega) 0 _).set_other (b' := n + 1 + 1 + 1 + 1) (by omega) 0 _
    have e3 : Row oV (((X.setCell ⟨n + 1 + 1, 0, none⟩ (.slice none 0 0)).setCell ⟨n + 1 + 1 + 1, 0, none⟩ (.bool true)).setCell ⟨n + 1 + 1 + 1 + 1, 0, none⟩ (.int .i64 0)) (n + 3) 4 [ob true] := ((r3.set_other (b' := n + 1 + 1) (by omega) 0 _).set 0 (ob true)).set_other (b' := n + 1 + 1 + 1 + 1) (by omega) 0 _
    have e4 : Row oV (((X.setCell ⟨n + 1 + 1, 0, none⟩ (.slice none 0 0)).setCell ⟨n + 1 + 1 + 1, 0, none⟩ (.bool true)).setCell ⟨n + 1 + 1 + 1 + 1, 0, none⟩ (.int .i64 0)) (n + 4) 45 [oi 0] := ((r4.set_other (b' := n + 1 + 1) (by omega) 0 _).set_other (b' := n + 1 + 1 + 1) (by omega) 0 _).set 0 (oi 0)
    have e6 := below_set (below_set (below_set hBw (b := n + 1 + 1) 0 (by omega) (.slice none 0 0)) (b := n + 1 + 1 + 1) 0 (by omega) (.bool true)) (b := n + 1 + 1 + 1 + 1) 0 (by omega) (.int .i64 0)
    have e9 : (((X.setCell ⟨n + 1 + 1, 0, none⟩ (.slice none 0 0)).setCell ⟨n + 1 + 1 + 1, 0, none⟩ (.bool true)).setCell ⟨n + 1 + 1 + 1 + 1, 0, none⟩ (.int .i64 0)).heap[D]? = some (.deferred (some [])) := (Below.heap_setCell _ _ _ _ (by show D ≠ n + 1 + 1 + 1 + 1; omega)).trans ((Below.heap_setCell _ _ _ _ (by show D ≠ n + 1 + 1 + 1; omega)).trans ((Below.heap_setCell _ _ _ _ (by show D ≠ n + 1 + 1; omega)).trans hKD))
    have HF := Lib.hid (And.intro e2 (And.intro e3 (And.intro e4 (And.intro e6 (And.intro e9 hk0)))))
    clear e2 e3 e4 e6 e9 hk0 r2 r3 r4 hBw hKD hn0 hn1
    gi_wp2
    obtain ⟨e2, e3, e4, e6, e9, hk0⟩ := HF.out
    refine ⟨by simp, .inl ⟨_, _, rfl, run_takeDeferred e9, ?_⟩⟩
    generalize (((X.setCell ⟨n + 1 + 1, 0, none⟩ (.slice none 0 0)).setCell ⟨n + 1 + 1 + 1, 0, none⟩ (.bool true)).setCell ⟨n + 1 + 1 + 1 + 1, 0, none⟩ (.int .i64 0)) = X8 at *
    have hG := grownBy_putObj' X8 D (.deferred none)
    have r2 := e2.grown hG (fun e => by injection e with e; omega)
    have r3 := e3.grown hG (fun e => by injection e with e; omega)
    have r4 := e4.grown hG (fun e => by injection e with e; omega)
    have d2 : (X8.putObj D (.deferred none)).cell? ⟨n + 1 + 1, 0, none⟩ = some (.slice none 0 0) := by rw [r2.cell?]; rfl
    have d3 : (X8.putObj D (.deferred none)).cell? ⟨n + 1 + 1 + 1, 0, none⟩ = some (.bool true) := by rw [r3.cell?]; rfl
    have d4 : (X8.putObj D (.deferred none)).cell? ⟨n + 1 + 1 + 1 + 1, 0, none⟩ = some (.int .i64 0) := by rw [r4.cell?]; rfl
    refine ⟨.tuple #[.slice none 0 0, .bool true, .int .i64 0], by simp [results, Tryz.results27, go_sem, d2, d3, d4], on, true, rfl, ?_, .inl ⟨rfl, fun x hx => ?_⟩⟩
    · rw [hn]; exact e6.grown hG (by have := e6.size; omega) (fun k e => by cases e; omega)
    · rw [← hS] at hx
      obtain ⟨y, hy, rfl⟩ := List.mem_map.1 hx
      exact hk0 y hy
  case stop =>
    rintro D c pre X hD hSp ⟨rfl, u, p, x, rfl, hk0, hkx, hO, hBw, hsz, r2, r3, r4⟩ hKD
    have HF := Lib.hid (And.intro r2 (And.intro r3 (And.intro r4 (And.intro hBw (And.intro hKD (And.intro hO (And.intro hkx hk0)))))))
    clear r2 r3 r4 hBw hKD hO hkx hk0
    gi_wp2
    obtain ⟨e2, e3, e4, e6, e9, hO, hkx, hk0⟩ := HF.out
    refine ⟨by simp, .inl ⟨_, _, rfl, run_takeDeferred e9, ?_⟩⟩
    have hG := grownBy_putObj' X D (.deferred none)
    have r2 := e2.grown hG (fun e => by injection e with e; omega)
    have r3 := e3.grown hG (fun e => by injection e with e; omega)
    have r4 := e4.grown hG (fun e => by injection e with e; omega)
    have hO2 := hO.grown' hG (fun g hg e => by
      injection e with e; subst e
      rcases hO.2 with ⟨h9, _⟩ | ⟨g', c', cur, h9, _, hc9, _⟩
      · rw [h9] at hg; cases hg
      · rw [h9] at hg; injection hg with hg; subst hg; rw [e9] at hc9; cases hc9)
    have d2 : (X.putObj D (.deferred none)).cell? ⟨n + 1 + 1, 0, none⟩ = some (oV u) := by rw [r2.cell?]; rfl
    have d3 : (X.putObj D (.deferred none)).cell? ⟨n + 1 + 1 + 1, 0, none⟩ = some (.bool false) := by rw [r3.cell?]; rfl
    have d4 : (X.putObj D (.deferred none)).cell? ⟨n + 1 + 1 + 1 + 1, 0, none⟩ = some (.int .i64 0) := by rw [r4.cell?]; rfl
    refine ⟨.tuple #[oV u, .bool false, .int .i64 0], by simp [results, Tryz.results27, go_sem, d2, d3, d4], u, false, rfl, ?_, .inr ⟨rfl, p.map Prod.fst, x.1, ?_, fun y hy => ?_, hkx, hO2.rd⟩⟩
    · rw [hn]; exact e6.grown hG (by have := e6.size; omega) (fun k e => by cases e; omega)
    · rw [List.map_append] at hSp; exact hSp
    · obtain ⟨z, hz, rfl⟩ := List.mem_map.1 hy
      exact hk0 z hz
end Go.Proofs.YtgflelodpcgmbaaGreatDoor
/- normal.Meets for the zero question. -/
namespace Go.Proofs.YtgflelodpcgmbaaGreatDoor
open Go.RowKit Mem
set_option maxRecDepth 100000

set_option maxHeartbeats 16000000 in
theorem nMeets0 (w : World) (N : NZ) (pc pr pe : Option Addr) (kc kr ke : Nat) (hv : NzAt w (.agg #[.slice pc N.cls.length kc, .slice pr N.rows.length kr, .slice pe N.ends.length ke]) N) (hval : N.valid = true) :
    Calls Tryz.prog 27 #[.agg #[.slice pc N.cls.length kc, .slice pr N.rows.length kr, .slice pe N.ends.length ke], .agg #[.slice none 0 0, .slice none 0 0, .slice none 0 0, .slice none 0 0, .slice none 0 0, .int .i64 0]] w fun e w' => e = .returned (.tuple #[.slice none 0 0, .bool false, .int .i64 1]) ∧ Below w.heap.size w w' := by
  have HV := Lib.hid hv
  clear hv
  go_enter Tryz.func27, Tryz.ntmps27
  go_upto_region 1 with (fail)
  obtain ⟨W, hW, hB, hs, g0, g1, g2, g3, g4⟩ : ∃ W, (((((w.alloc (.cells #[.slice pc N.cls.length kc, .slice pr N.rows.length kr, .slice pe N.ends.length ke] 26)).alloc (.cells #[.slice none 0 0, .slice none 0 0, .slice none 0 0, .slice none 0 0, .slice none 0 0, .int .i64 0] 65)).alloc (.cells #[.slice none 0 0] 29)).alloc (.cells #[.bool false] 4)).alloc (.cells #[.int .i64 0] 45)) = W ∧ Below w.heap.size w W ∧ W.heap.size = w.heap.size + 5 ∧ W.heap[w.heap.size]? = some (.cells #[.slice pc N.cls.length kc, .slice pr N.rows.length kr, .slice pe N.ends.length ke] 26 (0, 0)) ∧ W.heap[w.heap.size + 1]? = some (.cells #[.slice none 0 0, .slice none 0 0, .slice none 0 0, .slice none 0 0, .slice none 0 0, .int .i64 0] 65 (0, 0)) ∧ Row oV W (w.heap.size + 2) 29 [on] ∧ Row oV W (w.heap.size + 3) 4 [ob false] ∧ Row oV W (w.heap.size + 4) 45 [oi 0] := by
    refine ⟨_, rfl, below_al (below_al (below_al (below_al (below_al (Below.refl _ _) (Nat.le_refl _) _) (Nat.le_refl _) _) (Nat.le_refl _) _) (Nat.le_refl _) _) (Nat.le_refl _) _, by simp, ?_, ?_, ?_, ?_, ?_⟩
    all_goals repeat (first | (refine heap_new' _ _ _ ?_; (simp; done)) | (refine (Below.heap_alloc _ _ _ ?_).trans ?_; · (simp <;> omega)))
  rw [hW]
  clear hW
  have HC : Hid (∀ X : World, Below W.heap.size W X → (X.cell? ⟨w.heap.size, 0, none⟩ = some (.slice pc N.cls.length kc) ∧ X.cell? ⟨w.heap.size, 1, none⟩ = some (.slice pr N.rows.length kr) ∧ X.cell? ⟨w.heap.size, 2, none⟩ = some (.slice pe N.ends.length ke)) ∧ X.cell? ⟨w.heap.size + 1, 0, none⟩ = some (.slice none 0 0) ∧ X.cell? ⟨w.heap.size + 1, 1, none⟩ = some (.slice none 0 0) ∧ X.cell? ⟨w.heap.size + 1, 2, none⟩ = some (.slice none 0 0) ∧ X.cell? ⟨w.heap.size + 1, 3, none⟩ = some (.slice none 0 0)) := Lib.hid fun X hX => by
    have h1 := (hX.block w.heap.size (by omega)).trans g0
    have h2 := (hX.block (w.heap.size + 1) (by omega)).trans g1
    refine ⟨⟨?_, ?_, ?_⟩, ?_, ?_, ?_, ?_⟩ <;> (unfold World.cell?; first | (rw [h1]; rfl) | (rw [h2]; rfl))
  have HG := Lib.hid (And.intro g2 (And.intro g3 g4))
  clear g0 g1 g2 g3 g4
  have hW : Below W.heap.size W W := Below.refl _ _
  obtain ⟨⟨c0, c1, c2⟩, q0, q1, q2, q3⟩ := HC.out W hW
  go_wp2_with fail
  refine (rCheck0 W).mono ?_
  rintro e W1 ⟨a1, b1, i1, rfl, hB1⟩
  clear c0 c1 c2 q0 q1 q2 q3
  have hZ1 : Row oV (W1.alloc (.cells #[.int .i64 0, .int .i64 0, .slice none 0 0] 108)) W1.heap.size 108 [oi 0, oi 0, on] := Row.new _ _ rfl
  have hY1 : Below W.heap.size W W1 := hW.trans (hB1.mono hW.size)
  go_wp2_with (((with_reducible refine store_agg (f := oV) (l := [oi 0, oi 0, on]) (l' := [a1, b1, i1]) (t := 108) (C := #[oV a1, oV b1, oV i1]) aggInfo (.tmp 7) (.tmp 17) ?_ ?_ W1.heap.size ?_ ?_ ?_ hZ1 ?_ oV_one ?_); rfl; rfl; rfl; rfl; rfl; rfl; (intro X1 hs1 hG1 hz1); (refine Pause.back ?_)))
  have hX1 : Below W.heap.size W X1 := below_row hY1 hG1
  clear hZ1 hs1 hG1 hz1 hB1 hW hY1
  generalize W1.heap.size = m1 at *
  obtain ⟨⟨c0, c1, c2⟩, q0, q1, q2, q3⟩ := HC.out X1 hX1
  refine Pause.out ?_
  go_wp2_with fail
  refine (rCheck0 X1).mono ?_
  rintro e W2 ⟨a2, b2, i2, rfl, hB2⟩
  clear c0 c1 c2 q0 q1 q2 q3
  have hZ2 : Row oV (W2.alloc (.cells #[.int .i64 0, .int .i64 0, .slice none 0 0] 108)) W2.heap.size 108 [oi 0, oi 0, on] := Row.new _ _ rfl
  have hY2 : Below W.heap.size W W2 := hX1.trans (hB2.mono hX1.size)
  go_wp2_with (((with_reducible refine store_agg (f := oV) (l := [oi 0, oi 0, on]) (l' := [a2, b2, i2]) (t := 108) (C := #[oV a2, oV b2, oV i2]) aggInfo (.tmp 9) (.tmp 23) ?_ ?_ W2.heap.size ?_ ?_ ?_ hZ2 ?_ oV_one ?_); rfl; rfl; rfl; rfl; rfl; rfl; (intro X2 hs2 hG2 hz2); (refine Pause.back ?_)))
  have hX2 : Below W.heap.size W X2 := below_row hY2 hG2
  clear hZ2 hs2 hG2 hz2 hB2 hX1 hY2
  generalize W2.heap.size = m2 at *
  obtain ⟨⟨c0, c1, c2⟩, q0, q1, q2, q3⟩ := HC.out X2 hX2
  refine Pause.out ?_
  go_wp2_with fail
  refine (nValid X2 _ N (HV.out.below (hB.trans (hX2.mono hB.size)))).mono ?_
  rintro e X3 ⟨rfl, hB3⟩
  rw [hval]
  have hX3 : Below W.heap.size W X3 := hX2.trans (hB3.mono hX2.size)
  clear c0 c1 c2 q0 q1 q2 q3 hX2 hB3
  obtain ⟨g2, g3, g4⟩ := HG.out
  replace g2 := g2.below hX3 (by omega)
  replace g3 := g3.below hX3 (by omega)
  replace g4 := g4.below hX3 (by omega)
  have f2 := g2.frozen 0
  have f3 := g3.frozen 0
  have f4 := g4.frozen 0
  have d2 : X3.cell? ⟨w.heap.size + 1 + 1, 0, none⟩ = some (.slice none 0 0) := by rw [g2.cell?]; rfl
  have d3 : X3.cell? ⟨w.heap.size + 1 + 1 + 1, 0, none⟩ = some (.bool false) := by rw [g3.cell?]; rfl
  have d4 : X3.cell? ⟨w.heap.size + 1 + 1 + 1 + 1, 0, none⟩ = some (.int .i64 0) := by rw [g4.cell?]; rfl
  have hB9 := below_set (below_set (below_set (hB.trans (hX3.mono hB.size)) (b := w.heap.size + 1 + 1) 0 (by omega) (.slice none 0 0)) (b := w.heap.size + 1 + 1 + 1) 0 (by omega) (.bool false)) (b := w.heap.size + 1 + 1 + 1 + 1) 0 (by omega) (.int .i64 1)
  have e2 : Row oV (((X3.setCell ⟨w.heap.size + 1 + 1, 0, none⟩ (.slice none 0 0)).setCell ⟨w.heap.size + 1 + 1 + 1, 0, none⟩ (.bool false)).setCell ⟨w.heap.size + 1 + 1 + 1 + 1, 0, none⟩ (.int .i64 1)) (w.heap.size + 2) 29 [on] := ((g2.set 0 on).set_other (b' := w.heap.size + 1 + 1 + 1) (by omega) 0 _).set_other (b' := w.heap.size + 1 + 1 + 1 + 1) (by omega) 0 _
  have e3 : Row oV (((X3.setCell ⟨w.heap.size + 1 + 1, 0, none⟩ (.slice none 0 0)).setCell ⟨w.heap.size + 1 + 1 + 1, 0, none⟩ (.bool false)).setCell ⟨w.heap.size + 1 + 1 + 1 + 1, 0, none⟩ (.int .i64 1)) (w.heap.size + 3) 4 [ob false] := ((g3.set_other (b' := w.heap.size + 1 + 1) (by omega) 0 _).set 0 (ob false)).set_other (b' := w.heap.size + 1 + 1 + 1 + 1) (by omega) 0 _
  have e4 : Row oV (((X3.setCell ⟨w.heap.size + 1 + 1, 0, none⟩ (.slice none 0 0)).setCell ⟨w.heap.size + 1 + 1 + 1, 0, none⟩ (.bool false)).setCell ⟨w.heap.size + 1 + 1 + 1 + 1, 0, none⟩ (.int .i64 1)) (w.heap.size + 4) 45 [oi 1] := ((g4.set_other (b' := w.heap.size + 1 + 1) (by omega) 0 _).set_other (b' := w.heap.size + 1 + 1 + 1) (by omega) 0 _).set 0 (oi 1)
  clear g2 g3 g4
  go_wp2
  generalize (((X3.setCell ⟨w.heap.size + 1 + 1, 0, none⟩ (.slice none 0 0)).setCell ⟨w.heap.size + 1 + 1 + 1, 0, none⟩ (.bool false)).setCell ⟨w.heap.size + 1 + 1 + 1 + 1, 0, none⟩ (.int .i64 1)) = X9 at *
  have d2' : X9.cell? ⟨w.heap.size + 1 + 1, 0, none⟩ = some (.slice none 0 0) := by rw [e2.cell?]; rfl
  have d3' : X9.cell? ⟨w.heap.size + 1 + 1 + 1, 0, none⟩ = some (.bool false) := by rw [e3.cell?]; rfl
  have d4' : X9.cell? ⟨w.heap.size + 1 + 1 + 1 + 1, 0, none⟩ = some (.int .i64 1) := by rw [e4.cell?]; rfl
  refine bodyPost_ret (v := .tuple #[.slice none 0 0, .bool false, .int .i64 1]) (by simp [results, Tryz.results27, go_sem, d2', d3', d4']) rfl ?_
  exact ⟨rfl, hB9⟩
end Go.Proofs.YtgflelodpcgmbaaGreatDoor
/- The normalizer of the documentation's examples. -/
namespace Go.Proofs.YtgflelodpcgmbaaGreatDoor
open Go.RowKit Mem
set_option maxRecDepth 100000

def exA : Cl := ⟨18446744073709551615, 18446744065119617023, 18446744073709551615, 18446744073709551615⟩
def exB : Cl := ⟨0, 8589934592, 0, 0⟩
def exN : NZ := ⟨[exA, exB], [[⟨0, 0, 0⟩, ⟨1, 1, 0⟩], [⟨0, 2, 98⟩, ⟨0, 3, 0⟩]], [true, false]⟩
theorem aggNorm : AggT Tryz.prog 26 3 := ⟨fun _ => by kernel_rfl, fun _ => by kernel_rfl⟩
/-- a program's slice of classes, cells or flags lies in a whole block -/
theorem RdK.row {α : Type} {K : Nat} {enc : α → List OC} {w : World} {b : Nat} {t : TypeId} {l : List α} {cs : List OC} (h : Row oV w b t cs) (hc : l.flatMap enc = cs) (hk : ∀ x ∈ l, (enc x).length = K) : RdK K enc w (.slice (some ⟨b, 0, none⟩) l.length l.length) l := by
  refine .inr ⟨b, 0, l.length, rfl, Nat.le_refl _, fun i hi => ?_, h.lt⟩
  subst hc
  intro j hj
  rw [h.cell?]
  congr 1
  have : ∀ (l : List α) (hk : ∀ x ∈ l, (enc x).length = K) (i : Nat) (hi : i < l.length) (j : Nat), j < (enc l[i]).length → (l.flatMap enc)[i * K + j]? = (enc l[i])[j]? := by
    intro l
    induction l with
    | nil => intro _ i hi; simp at hi
    | cons a l ih =>
      intro hk i hi j hj
      rw [List.flatMap_cons]
      cases i with
      | zero =>
        simp only [Nat.zero_mul, Nat.zero_add, List.getElem_cons_zero] at hj ⊢
        rw [List.getElem?_append_left hj]
      | succ i =>
        simp only [List.getElem_cons_succ] at hj ⊢
        have ha : (enc a).length = K := hk a (List.mem_cons_self ..)
        rw [List.getElem?_append_right (by rw [ha, Nat.succ_mul]; omega), ha]
        rw [show (i + 1) * K + j - K = i * K + j by rw [Nat.succ_mul]; omega]
        exact ih (fun x hx => hk x (List.mem_cons_of_mem _ hx)) i (by simpa using hi) j hj
  rw [Nat.zero_add]
  exact this l hk i hi j hj

set_option maxHeartbeats 16000000 in
theorem exampleN (w : World) :
    Calls Tryz.prog 26 #[] w fun e w' => ∃ pc pr pe, e = .returned (.agg #[.slice pc exN.cls.length 2, .slice pr exN.rows.length 2, .slice pe exN.ends.length 2]) ∧ NzAt w' (.agg #[.slice pc exN.cls.length 2, .slice pr exN.rows.length 2, .slice pe exN.ends.length 2]) exN ∧ Below w.heap.size w w' := by
  go_enter Tryz.func26, Tryz.ntmps26
  have hx : bits BinOp.xor IntKind.u64 18446744073709551615 8589934592 = 18446744065119617023 := by kernel_rfl
  go_upto_region 3 with (fail)
  generalize hn : w.heap.size = n at *
  obtain ⟨W2, hW, hB, hs, r0, r1, r2⟩ : ∃ W, (((w.alloc (.cells #[.slice none 0 0, .slice none 0 0, .slice none 0 0] 26)).alloc (.cells #[.int .u64 18446744073709551615, .int .u64 18446744065119617023, .int .u64 18446744073709551615, .int .u64 18446744073709551615, .int .u64 0, .int .u64 8589934592, .int .u64 0, .int .u64 0] 80)).alloc (.cells #[.slice (some ⟨n + 1, 0, none⟩) 2 2, .slice none 0 0, .slice none 0 0] 26)) = W ∧ Below n w W ∧ W.heap.size = n + 3 ∧ Row oV W n 26 [on, on, on] ∧ Row oV W (n + 1) 80 [ow 18446744073709551615, ow 18446744065119617023, ow 18446744073709551615, ow 18446744073709551615, ow 0, ow 8589934592, ow 0, ow 0] ∧ Row oV W (n + 2) 26 [osl (n + 1) 2 2, on, on] := by
    subst hn
    refine ⟨_, rfl, below_al (below_al (below_al (Below.refl _ _) (Nat.le_refl _) _) (Nat.le_refl _) _) (Nat.le_refl _) _, by simp, ?_, ?_, ?_⟩
    all_goals repeat (first | (refine heap_new' _ _ _ ?_; (simp; done)) | (refine (Below.heap_alloc _ _ _ ?_).trans ?_; · (simp <;> omega)))
  rw [hW]
  clear hW hx
  rw [show n + 1 + 1 = n + 2 from rfl]
  have f1 := r2.frozen 1
  have f2 := r2.frozen 2
  have d1 : W2.cell? ⟨n + 2, 1, none⟩ = some (.slice none 0 0) := by rw [r2.cell?]; rfl
  have d2 : W2.cell? ⟨n + 2, 2, none⟩ = some (.slice none 0 0) := by rw [r2.cell?]; rfl
  have hl := r2.lt
  go_upto_region 4 with (fail)
  obtain ⟨W3, hW, hB3, hs3, q0, q1, q2, q3, q4, q5⟩ : ∃ W, ((((W2.setCell ⟨n + 2, 1, none⟩ (.slice (some ⟨n + 3 + 1 + 1, 0, none⟩) 2 2)).alloc (.cells #[.int .i64 0, .int .i64 0, .int .u8 0, .int .i64 1, .int .i64 1, .int .u8 0] 75)).alloc (.cells #[.int .i64 0, .int .i64 2, .int .u8 98, .int .i64 0, .int .i64 3, .int .u8 0] 75)).alloc (.cells #[.slice (some ⟨n + 3, 0, none⟩) 2 2, .slice (some ⟨n + 3 + 1, 0, none⟩) 2 2] 76)) = W ∧ Below n w W ∧ W.heap.size = n + 6 ∧ Row oV W n 26 [on, on, on] ∧ Row oV W (n + 1) 80 [ow 18446744073709551615, ow 18446744065119617023, ow 18446744073709551615, ow 18446744073709551615, ow 0, ow 8589934592, ow 0, ow 0] ∧ Row oV W (n + 2) 26 [osl (n + 1) 2 2, osl (n + 5) 2 2, on] ∧
      Row oV W (n + 3) 75 [oi 0, oi 0, ⟨.int .u8 0, rfl⟩, oi 1, oi 1, ⟨.int .u8 0, rfl⟩] ∧ Row oV W (n + 4) 75 [oi 0, oi 2, ⟨.int .u8 98, rfl⟩, oi 0, oi 3, ⟨.int .u8 0, rfl⟩] ∧ Row oV W (n + 5) 76 [osl (n + 3) 2 2, osl (n + 4) 2 2] := by
    have hB' := below_set hB (b := n + 2) 1 (by omega) (.slice (some ⟨n + 3 + 1 + 1, 0, none⟩) 2 2)
    have s0 := r0.set_other (b' := n + 2) (by omega) 1 (.slice (some ⟨n + 3 + 1 + 1, 0, none⟩) 2 2)
    have s1 := r1.set_other (b' := n + 2) (by omega) 1 (.slice (some ⟨n + 3 + 1 + 1, 0, none⟩) 2 2)
    have s2 : Row oV (W2.setCell ⟨n + 2, 1, none⟩ (.slice (some ⟨n + 3 + 1 + 1, 0, none⟩) 2 2)) (n + 2) 26 [osl (n + 1) 2 2, osl (n + 5) 2 2, on] := r2.set 1 (osl (n + 5) 2 2)
    have hz : (W2.setCell ⟨n + 2, 1, none⟩ (.slice (some ⟨n + 3 + 1 + 1, 0, none⟩) 2 2)).heap.size = n + 3 := by simp [hs]
    generalize (W2.setCell ⟨n + 2, 1, none⟩ (.slice (some ⟨n + 3 + 1 + 1, 0, none⟩) 2 2)) = Y at *
    have hn' : n ≤ w.heap.size := by omega
    refine ⟨_, rfl, below_al (below_al (below_al hB' hn' _) hn' _) hn' _, by simp [hz], ((s0.alloc _).alloc _).alloc _, ((s1.alloc _).alloc _).alloc _, ((s2.alloc _).alloc _).alloc _, ?_, ?_, ?_⟩
    · exact ((Row.new Y (.cells #[.int .i64 0, .int .i64 0, .int .u8 0, .int .i64 1, .int .i64 1, .int .u8 0] 75) (l := [oi 0, oi 0, ⟨.int .u8 0, rfl⟩, oi 1, oi 1, ⟨.int .u8 0, rfl⟩]) rfl).alloc _).alloc _ |> fun h => by rwa [hz] at h
    · have h := (Row.new (f := oV) (Y.alloc (.cells #[.int .i64 0, .int .i64 0, .int .u8 0, .int .i64 1, .int .i64 1, .int .u8 0] 75)) (.cells #[.int .i64 0, .int .i64 2, .int .u8 98, .int .i64 0, .int .i64 3, .int .u8 0] 75) (l := [oi 0, oi 2, ⟨.int .u8 98, rfl⟩, oi 0, oi 3, ⟨.int .u8 0, rfl⟩]) rfl).alloc (.cells #[.slice (some ⟨n + 3, 0, none⟩) 2 2, .slice (some ⟨n + 3 + 1, 0, none⟩) 2 2] 76)
      rwa [show (Y.alloc (.cells #[.int .i64 0, .int .i64 0, .int .u8 0, .int .i64 1, .int .i64 1, .int .u8 0] 75)).heap.size = n + 4 by simp [hz]] at h
    · have h := Row.new (f := oV) ((Y.alloc (.cells #[.int .i64 0, .int .i64 0, .int .u8 0, .int .i64 1, .int .i64 1, .int .u8 0] 75)).alloc (.cells #[.int .i64 0, .int .i64 2, .int .u8 98, .int .i64 0, .int .i64 3, .int .u8 0] 75)) (.cells #[.slice (some ⟨n + 3, 0, none⟩) 2 2, .slice (some ⟨n + 3 + 1, 0, none⟩) 2 2] 76) (l := [osl (n + 3) 2 2, osl (n + 4) 2 2]) rfl
      rwa [show ((Y.alloc (.cells #[.int .i64 0, .int .i64 0, .int .u8 0, .int .i64 1, .int .i64 1, .int .u8 0] 75)).alloc (.cells #[.int .i64 0, .int .i64 2, .int .u8 98, .int .i64 0, .int .i64 3, .int .u8 0] 75)).heap.size = n + 5 by simp [hz]] at h
  rw [hW]
  clear hW r0 r1 r2 f1 f2 d1 d2 hl hB hs W2
  rw [show n + 3 + 1 = n + 4 from rfl, show n + 4 + 1 = n + 5 from rfl]
  have f2 := q2.frozen 2
  have d2 : W3.cell? ⟨n + 2, 2, none⟩ = some (.slice none 0 0) := by rw [q2.cell?]; rfl
  have hl := q2.lt
  go_upto_region 5 with (fail)
  obtain ⟨W4, hW, hB4, p0, p1, p2, p3, p4, p5, p6⟩ : ∃ W, ((W3.setCell ⟨n + 2, 2, none⟩ (.slice (some ⟨n + 6, 0, none⟩) 2 2)).alloc (.cells #[.bool true, .bool false] 4)) = W ∧ Below n w W ∧ Row oV W n 26 [on, on, on] ∧ Row oV W (n + 1) 80 [ow 18446744073709551615, ow 18446744065119617023, ow 18446744073709551615, ow 18446744073709551615, ow 0, ow 8589934592, ow 0, ow 0] ∧ Row oV W (n + 2) 26 [osl (n + 1) 2 2, osl (n + 5) 2 2, osl (n + 6) 2 2] ∧
      Row oV W (n + 3) 75 [oi 0, oi 0, ⟨.int .u8 0, rfl⟩, oi 1, oi 1, ⟨.int .u8 0, rfl⟩] ∧ Row oV W (n + 4) 75 [oi 0, oi 2, ⟨.int .u8 98, rfl⟩, oi 0, oi 3, ⟨.int .u8 0, rfl⟩] ∧ Row oV W (n + 5) 76 [osl (n + 3) 2 2, osl (n + 4) 2 2] ∧ Row Value.bool W (n + 6) 4 [true, false] := by
    have hz : (W3.setCell ⟨n + 2, 2, none⟩ (.slice (some ⟨n + 6, 0, none⟩) 2 2)).heap.size = n + 6 := by simp [hs3]
    have hn' : n ≤ w.heap.size := by omega
    refine ⟨_, rfl, below_al (below_set hB3 (b := n + 2) 2 (by omega) _) hn' _, (q0.set_other (b' := n + 2) (by omega) 2 _).alloc _, (q1.set_other (b' := n + 2) (by omega) 2 _).alloc _, (q2.set 2 (osl (n + 6) 2 2)).alloc _, (q3.set_other (b' := n + 2) (by omega) 2 _).alloc _, (q4.set_other (b' := n + 2) (by omega) 2 _).alloc _, (q5.set_other (b' := n + 2) (by omega) 2 _).alloc _, ?_⟩
    have h := Row.new (f := Value.bool) (W3.setCell ⟨n + 2, 2, none⟩ (.slice (some ⟨n + 6, 0, none⟩) 2 2)) (.cells #[.bool true, .bool false] 4) (l := [true, false]) rfl
    rwa [hz] at h
  rw [hW]
  clear hW q0 q1 q2 q3 q4 q5 f2 d2 hl hB3 hs3 W3
  have d0 : W4.cell? ⟨n + 2, 0, none⟩ = some (.slice (some ⟨n + 1, 0, none⟩) 2 2) := by rw [p2.cell?]; rfl
  have d1 : W4.cell? ⟨n + 2, 1, none⟩ = some (.slice (some ⟨n + 5, 0, none⟩) 2 2) := by rw [p2.cell?]; rfl
  have d2 : W4.cell? ⟨n + 2, 2, none⟩ = some (.slice (some ⟨n + 6, 0, none⟩) 2 2) := by rw [p2.cell?]; rfl
  go_wp2_with (first
    | ((with_reducible refine store_agg (f := oV) (l := [on, on, on]) (l' := [osl (n + 1) 2 2, osl (n + 5) 2 2, osl (n + 6) 2 2]) (t := 26) (C := #[.slice (some ⟨n + 1, 0, none⟩) 2 2, .slice (some ⟨n + 5, 0, none⟩) 2 2, .slice (some ⟨n + 6, 0, none⟩) 2 2]) aggNorm (.tmp 0) (.tmp 22) ?_ ?_ n ?_ ?_ ?_ p0 ?_ oV_one ?_); rfl; rfl; rfl; rfl; rfl; rfl; (intro Y hsY hGY hzY)))
  refine bodyPost_ret (v := .agg #[.slice (some ⟨n + 1, 0, none⟩) 2 2, .slice (some ⟨n + 5, 0, none⟩) 2 2, .slice (some ⟨n + 6, 0, none⟩) 2 2]) (results_agg (f := oV) (l := [osl (n + 1) 2 2, osl (n + 5) 2 2, osl (n + 6) 2 2]) rfl _ aggNorm n 0 rfl hsY.at) rfl ?_
  have hne : ∀ b, n < b → some b ≠ some n := fun b hb e => by injection e with e; omega
  have y1 := p1.grown hGY (hne _ (by omega))
  have y3 := p3.grown hGY (hne _ (by omega))
  have y4 := p4.grown hGY (hne _ (by omega))
  have y5 := p5.grown hGY (hne _ (by omega))
  have y6 := p6.grown hGY (hne _ (by omega))
  refine ⟨some ⟨n + 1, 0, none⟩, some ⟨n + 5, 0, none⟩, some ⟨n + 6, 0, none⟩, rfl, ⟨_, _, _, rfl, ?_, ?_, ?_⟩, ?_⟩
  · exact RdK.row y1 rfl (fun x _ => rfl)
  · refine .inr ⟨n + 5, 0, 2, rfl, Nat.le_refl _, fun i hi => ?_, y5.lt⟩
    have hi2 : i < 2 := hi
    rcases Nat.lt_or_ge i 1 with h | h
    · obtain rfl : i = 0 := by omega
      exact ⟨.slice (some ⟨n + 3, 0, none⟩) 2 2, by rw [y5.cell?]; rfl, RdK.row (l := ([⟨0, 0, 0⟩, ⟨1, 1, 0⟩] : List Ce)) y3 rfl (fun x _ => rfl)⟩
    · obtain rfl : i = 1 := by omega
      exact ⟨.slice (some ⟨n + 4, 0, none⟩) 2 2, by rw [y5.cell?]; rfl, RdK.row (l := ([⟨0, 2, 98⟩, ⟨0, 3, 0⟩] : List Ce)) y4 rfl (fun x _ => rfl)⟩
  · exact .inr ⟨n + 6, 0, 2, rfl, Nat.le_refl _, y6.at, y6.lt⟩
  · rw [hn]; exact hB4.grown hGY (by have := hB4.size; omega) (fun k e => by cases e; exact Nat.le_refl _)

theorem exValid : exN.valid = true := by decide +kernel
theorem exCov : exN.Cov := by
  have h : ∀ i : Fin 256, ∃ k, k < exN.cls.length ∧ idxC exN.cls (UInt8.ofNat i.1) = (k : Int) := by
    have h2 : ∀ i : Fin 256, idxC exN.cls (UInt8.ofNat i.1) = ((idxC exN.cls (UInt8.ofNat i.1)).toNat : Int) ∧ (idxC exN.cls (UInt8.ofNat i.1)).toNat < exN.cls.length := by decide +kernel
    exact fun i => ⟨_, (h2 i).2, (h2 i).1⟩
  intro b
  obtain ⟨k, h1, h2⟩ := h ⟨b.toNat, b.toNat_lt⟩
  refine ⟨k, h1, ?_⟩
  have e : UInt8.ofNat b.toNat = b := by simp
  simpa [e] using h2
end Go.Proofs.YtgflelodpcgmbaaGreatDoor
