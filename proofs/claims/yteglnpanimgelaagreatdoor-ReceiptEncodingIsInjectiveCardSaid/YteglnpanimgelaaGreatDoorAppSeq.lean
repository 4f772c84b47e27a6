/- slices.AppendSeq and slices.Collect over an iterator of ints; receipt.sampled and receipt.Sample. -/
import Derived.Test.YteglnpanimgelaaGreatDoorSamp1
import Derived.Test.YteglnpanimgelaaGreatDoorSame
import Derived.Shelf.Abstract
import Derived.Shelf.RegionOpen
namespace Go.Proofs.YteglnpanimgelaaGreatDoor
open Go.RowKit Go.Shelf Mem
attribute [local go_sem] Oper.semAt_some
set_option maxRecDepth 100000

theorem eltI : Elt Tryz.prog 25 3 8 := Elt.mk' (z := .int .i64 0) Tryz.underlying25 (by kernel_rfl) rfl
theorem iV_one (x : Int) : (iV x).oneCell' = true := rfl
theorem Mem.Own.grownN {α : Type} {f : α → Value} {w w' : World} {base : Nat} {e : TypeId} {v : Value} {l : List α} (h : Mem.Own f w base e v l) {row : Option Nat} (hg : w.grownBy w' row)
    (hr : ∀ r, row = some r → ∃ o : Obj, w.heap[r]? = some o ∧ o.isCells = false) : Mem.Own f w' base e v l := by
  refine ⟨h.1, ?_⟩
  rcases h.2 with hn | ⟨g, cap, cur, rfl, hbg, hc, rest⟩
  · exact .inl hn
  · refine .inr ⟨g, cap, cur, rfl, hbg, (hg.block g (Array.getElem?_eq_some_iff.1 hc).1 (fun e => ?_)).trans hc, rest⟩
    obtain ⟨o, ho, hoc⟩ := hr g e.symm
    rw [hc] at ho; cases ho; cases hoc

theorem keepB_put {K : Nat} (W : World) (l : Nat) (o' : Obj) (hl : K ≤ l) : KeepB K W (W.putObj l o') :=
  ⟨by simp, fun r hr => World.putObj_heap_other (by omega)⟩

set_option maxHeartbeats 4000000 in
theorem appendSeq (w : World) (gf : Nat) (lb : Array Value) {G : List Int → Int → World → Prop} {S : List Int → Prop} {K : Nat} (hK : K ≤ w.heap.size) (hseq : SeqP Fence.wide 4 Tryz.prog gf lb (fun x : Int => #[.int .i64 x]) G (KeepB K) S w)
    (eg : ∀ args w, (callFunc gf args).run Tryz.prog w = .ok (.enter gf args) w) (hGb : ∀ (pre : List Int) (x : Int) (W : World) (l : Nat) (o o' : Obj), G pre x W → W.heap[l]? = some o → o.isCells = false → G pre x (W.putObj l o'))
    (hlen : ∀ pre x W, G pre x W → pre.length < 1000000) :
    Calls Tryz.prog 35 #[.slice none 0 0, .func (.func gf) #[] lb] w fun e w' => ∃ v xs, e = .returned v ∧ S xs ∧ Mem.Own iV w' w.heap.size 3 v xs ∧ Below w.heap.size w w' := by
  refine (callsIn_wide (n := 5)).1 ?_
  refine callsIn_of_wp_marks Tryz.func35 rfl trivial ?_ rfl
  simp only [Tryz.ntmps35, List.size_toArray, List.length_cons, List.length_nil, Nat.reduceAdd, Nat.reduceSub, Array.replicate_succ, Array.replicate_zero, List.push_toArray, List.append_toArray, List.nil_append, List.cons_append]
  gi_wp2_with fail
  have hv0 : (w.alloc (.cells #[.slice none 0 0] 25)).heap[w.heap.size]? = some (.cells #[.slice none 0 0] 25 (0, 0)) := World.alloc_heap_new _ _
  have hb0 : Below w.heap.size w (w.alloc (.cells #[.slice none 0 0] 25)) := (Below.refl _ _).alloc (Nat.le_refl _) _
  have hs0 : (w.alloc (.cells #[.slice none 0 0] 25)).heap.size = w.heap.size + 1 := World.size_alloc _ _
  generalize w.alloc (.cells #[.slice none 0 0] 25) = wl at *
  refine rangeP rfl (by omega) (gf := gf) (lb := lb) rfl trivial eg hseq keepB_t (fun W l o o' hl h _ _ => keepB_put W l o' (by omega)) hGb hb0 (fun _ => rfl)
    (fun pre W => ∃ v, W.heap[w.heap.size]? = some (.cells #[v] 25 (0, 0)) ∧ Mem.Own iV W (w.heap.size + 1) 3 v pre ∧ Below w.heap.size w W ∧ w.heap.size + 1 ≤ W.heap.size)
    ?hI ⟨_, hv0, Mem.Own.nil _ _ _, hb0, by omega⟩
    (fun x => { tmps := #[.slice none 0 0, .func (.func gf) #[] lb, .pointer (some ⟨w.heap.size, 0, none⟩), undef, .slice none 0 0, .int .i64 x, .func (.func gf) #[] lb, .int .i64 x, undef, undef, undef, undef, undef], defers := [] })
    ?assign ?body ?done
  case hI =>
    rintro pre A B row ⟨v, h1, h2, h3, h4⟩ hgr hrow
    refine ⟨v, (hgr.block _ (by omega) (fun e => by have := (hrow _ e.symm).1; omega)).trans h1, h2.grownN hgr (fun r e => (hrow r e).2), h3.grown hgr h3.size (fun k e => by have := (hrow _ e).1; omega), Nat.le_trans h4 hgr.size⟩
  case assign =>
    intro l x W K hK
    gi_wp2
    exact hK
  case body =>
    rintro l pre x W ⟨v, hc, hO, hB, hs⟩ hx
    have hpl := hlen _ _ _ hx
    have hcv := cell_var hc
    have hfv := frozen_var hc
    obtain ⟨p, cap, rfl⟩ := hO.slice
    gi_wp2_with (gi_at_builtin; (with_reducible refine append_one_in eltI (.tmp 8) (.tmp 10) ?_ ?_ iV_one ?_ hO x _ ?_ _ ?_ ?_ ?_ ?_ (pre ++ [x]) ?_ ?_); rfl; rfl; rfl; rfl; rfl; omega; omega; exact hs; rfl; intro p2 c2 w3 hO2 hB2 hG2; have hc3 := (hG2.block w.heap.size (by simp; omega) (fun e => by have := hO.lt w.heap.size e.symm; omega)).trans ((Below.heap_alloc _ _ _ (by omega)).trans hc); have hcv3 := cell_var hc3; have hfv3 := frozen_var hc3)
    rw [List.length_append, List.length_singleton] at hO2
    have hown : ∀ (j : Nat) (o : Obj), (Value.slice p pre.length cap).ownBlock = some j → (W.alloc (Obj.cells #[Value.int IntKind.i64 x] 3)).heap[j]? = some o → o.isCells = true := by
      intro j o ej hj
      rcases hO.2 with ⟨hq, _⟩ | ⟨g, cap', cur, hv, hg, hgc, _⟩
      · rw [hq] at ej; cases ej
      · rw [hv] at ej; cases ej
        rw [Below.heap_alloc _ _ _ (Array.getElem?_eq_some_iff.1 hgc).1, hgc] at hj
        cases hj; rfl
    have hBB : Below w.heap.size W (w3.setCell ⟨w.heap.size, 0, none⟩ (Value.slice p2 (pre.length + 1) c2)) := Below.setCell (hB2.mono (B' := w.heap.size) (by omega)) (p := ⟨w.heap.size, 0, none⟩) (Nat.le_refl _) _
    refine ⟨((KeepsOthers.alloc W _).trans (KeepsOthers.of_grownBy hG2 hown)).trans (KeepsOthers.setCell _ _ _), ⟨hBB.size, fun r hr => hBB.block r (by omega)⟩, _, set_var hc3 _, own_set_var hO2 (Nat.lt_succ_self _) _, hB.trans hBB, Nat.le_trans hs hBB.size⟩
  case done =>
    rintro D xs W hD hS ⟨v, hc, hO, hB, hs⟩ hKD
    have hcv := cell_var hc
    gi_wp2
    refine ⟨by simp, .inl ⟨_, _, rfl, run_takeDeferred hKD, ?_⟩⟩
    refine ⟨v, by simp [results, Tryz.results35, go_sem], v, xs, rfl, hS, ?_, ?_⟩
    · exact (hO.grownN (grownBy_putObj' W D (.deferred none)) (fun r e => by cases e; exact ⟨_, hKD, rfl⟩)).mono (Nat.le_succ _)
    · exact hB.grown (grownBy_putObj' W D (.deferred none)) hB.size (fun k e => by cases e; omega)

theorem collect (w : World) (gf : Nat) (lb : Array Value) {G : List Int → Int → World → Prop} {S : List Int → Prop} {K : Nat} (hK : K ≤ w.heap.size) (hseq : SeqP Fence.wide 4 Tryz.prog gf lb (fun x : Int => #[.int .i64 x]) G (KeepB K) S w)
    (eg : ∀ args w, (callFunc gf args).run Tryz.prog w = .ok (.enter gf args) w) (hGb : ∀ (pre : List Int) (x : Int) (W : World) (l : Nat) (o o' : Obj), G pre x W → W.heap[l]? = some o → o.isCells = false → G pre x (W.putObj l o'))
    (hlen : ∀ pre x W, G pre x W → pre.length < 1000000) :
    Calls Tryz.prog 21 #[.func (.func gf) #[] lb] w fun e w' => ∃ v xs, e = .returned v ∧ S xs ∧ Mem.Own iV w' w.heap.size 3 v xs ∧ Below w.heap.size w w' := by
  have H := Lib.hid (appendSeq w gf lb hK hseq eg hGb hlen)
  clear hseq eg hGb hlen
  go_enter Tryz.func21, Tryz.ntmps21
  go_wp2_with fail
  refine H.out.mono ?_
  rintro e w1 ⟨v, xs, rfl, hS, hO, hB⟩
  go_wp2
  go_ret
  exact ⟨v, xs, rfl, hS, hO, hB⟩

theorem sampledFn (w : World) (K0 : Array Value) (n rate : Int) :
    Calls Tryz.prog 22 #[.agg K0, .int .i64 n, .int .i64 rate] w fun e w' => e = .returned (.func (.func 36) #[] #[.pointer (some ⟨w.heap.size + 1, 0, none⟩), .pointer (some ⟨w.heap.size, 0, none⟩), .pointer (some ⟨w.heap.size + 1 + 1, 0, none⟩)]) ∧
      ((w.alloc (.cells K0 23)).alloc (.cells #[.int .i64 n] 3)).alloc (.cells #[.int .i64 rate] 3) = w' := by
  go_enter Tryz.func22, Tryz.ntmps22
  go_wp2
  go_ret
  exact ⟨rfl, rfl⟩

namespace Sha
/-- is the call of Sample answered with a sample? -/
def sampOk (n rate : Int) : Bool := decide (0 ≤ n) && decide (n ≤ 4800) && decide (1 ≤ rate) && decide (rate ≤ 1000)
theorem sampOk_yes {n rate : Int} (h : sampOk n rate = true) : 0 ≤ n ∧ n ≤ 4800 ∧ 1 ≤ rate ∧ rate ≤ 1000 := by
  simp only [sampOk, Bool.and_eq_true, decide_eq_true_eq] at h; omega
theorem sampOk_no {n rate : Int} (h : sampOk n rate = false) : n < 0 ∨ 4800 < n ∨ rate < 1 ∨ 1000 < rate := by
  by_cases h1 : 0 ≤ n ∧ n ≤ 4800 ∧ 1 ≤ rate ∧ rate ≤ 1000
  · simp [sampOk, h1.1, h1.2.1, h1.2.2.1, h1.2.2.2] at h
  · omega
end Sha

set_option maxHeartbeats 4000000 in
theorem sampleYes (w : World) (tg : TypeId) (fg : Nat × Nat) (hg : w.heap[0]? = some (.cells (Sha.consts.map u32V).toArray tg fg)) (seed : List UInt8) (hsl : seed.length = 32) (K0 : Array Value) (HK : Hid (K0 = (seed.map u8V).toArray))
    (n rate : Nat) (h2 : n ≤ 4800) (h3 : 1 ≤ rate) (h4 : rate ≤ 1000) :
    Calls Tryz.prog 8 #[.agg K0, .int .i64 n, .int .i64 rate] w fun e w' => ∃ v, e = .returned (.tuple #[v, .int .i64 0]) ∧ Mem.Own iV w' w.heap.size 3 v (Sha.samp seed rate n) ∧ Below w.heap.size w w' := by
  have harr : AggT Tryz.prog 23 seed.length := by rw [hsl]; exact arr23
  have HSL := Lib.hid hsl
  clear hsl
  have q1 : 0 ≤ (n : Int) := by omega
  have q2 : (n : Int) ≤ 4800 := by omega
  have q3 : 1 ≤ (rate : Int) := by omega
  have q4 : (rate : Int) ≤ 1000 := by omega
  go_enter Tryz.func8, Tryz.ntmps8
  have hR0 : Row u8V (w.alloc (.cells K0 23)) w.heap.size 23 seed := Row.new w _ (by rw [HK.out])
  have hb0 : Below w.heap.size w (w.alloc (.cells K0 23)) := (Below.refl _ _).alloc (Nat.le_refl _) _
  have hs0 : (w.alloc (.cells K0 23)).heap.size = w.heap.size + 1 := World.size_alloc _ _
  have h0 : 0 < w.heap.size := (Array.getElem?_eq_some_iff.1 hg).1
  have HG := Lib.hid hg
  clear hg
  go_wp2_with ((with_reducible refine load_agg (f := u8V) (l := seed) harr (.tmp 3) ?_ ?_ w.heap.size 0 ?_ hR0.at HK.out ?_); rfl; rfl; rfl)
  have HS0 := Lib.hid hs0
  clear hs0
  generalize w.alloc (.cells K0 23) = w0 at *
  refine (sampledFn w0 K0 n rate).mono ?_
  rintro e w1 ⟨rfl, hw1⟩
  have hin : SampIn seed n rate (w0.heap.size + 1) w0.heap.size (w0.heap.size + 1 + 1) tg fg w1 := by
    have hs0 := HS0.out
    subst hw1
    refine ⟨?_, ?_, ?_, ?_⟩
    · exact (Below.heap_alloc _ _ _ (by simp)).trans (heap_new' _ _ _ (by simp))
    · have := Row.new (f := u8V) (t := 23) (l := seed) w0 (.cells K0 23) (by rw [HK.out])
      exact (this.alloc _).alloc _
    · exact heap_new' _ _ _ (by simp)
    · exact (Below.heap_alloc _ _ _ (by simp <;> omega)).trans ((Below.heap_alloc _ _ _ (by simp <;> omega)).trans ((Below.heap_alloc _ _ _ (by omega)).trans ((hb0.block 0 h0).trans HG.out)))
  have hb1 : Below w.heap.size w w1 := by
    have hs0 := HS0.out
    subst hw1; exact ((hb0.alloc (by omega) _).alloc (by simp; omega) _).alloc (by simp; omega) _
  have hs1 : w1.heap.size = w0.heap.size + 3 := by subst hw1; simp
  clear hw1
  have H := Lib.hid (collect w1 36 _ (Nat.le_refl _) (sampled1 4 (by omega) w1.heap.size seed HSL.out n rate h2 h3 h4 _ _ _ tg fg w1 hin (by omega) (by omega) (by omega) (by omega) (Nat.le_refl _))
    (enters_of Tryz.func36 (by kernel_rfl) rfl) (fun _ _ _ _ _ _ h _ _ => h) (fun pre x W h => by omega))
  clear hin hs1
  go_wp2_with fail
  refine H.out.mono ?_
  rintro e w2 ⟨v, xs, rfl, rfl, hO, hB⟩
  have hle := hb1.size
  go_wp2
  go_ret2
  exact ⟨v, rfl, hO.mono hle, hb1.trans (hB.mono hle)⟩
end Go.Proofs.YteglnpanimgelaaGreatDoor
