/- Calls at an empty fleet and at an empty map. -/
import Derived.Test.YteglnpanimgelaaGreatDoorSample
import Derived.Laws.IdiomRangeMap
import Derived.Maps.RangeRun
namespace Go.Proofs.YteglnpanimgelaaGreatDoor
open Go.RowKit Mem
attribute [local go_sem] Oper.semAt_some
set_option maxRecDepth 100000

abbrev noFleet : Value := .agg #[.slice none 0 0, .slice none 0 0, .slice none 0 0, .slice none 0 0]

theorem check0 (w : World) : Calls Tryz.prog 42 #[noFleet] w fun e w' => e = .returned (.tuple #[.map none, .int .i64 1]) ∧ Below w.heap.size w w' := by
  go_enter Tryz.func42, Tryz.ntmps42
  go_wp2
  go_ret2
  exact ⟨rfl, (Below.refl _ _).alloc (Nat.le_refl _) _⟩

theorem valid0 (w : World) : Calls Tryz.prog 30 #[noFleet] w fun e w' => e = .returned (.int .i64 1) ∧ Below w.heap.size w w' := by
  go_enter Tryz.func30, Tryz.ntmps30
  go_wp2_with fail
  refine (check0 _).mono ?_
  rintro e w1 ⟨rfl, hB⟩
  have hb1 : Below w.heap.size w w1 := ((Below.refl _ w).alloc (Nat.le_refl _) _).trans (hB.mono (by simp))
  clear hB
  go_wp2
  go_ret
  exact ⟨rfl, hb1⟩

theorem replay0 (w : World) (C0 : Array Value) : Calls Tryz.prog 19 #[noFleet, .agg C0, .slice none 0 0] w fun e w' => e = .returned (.int .i64 1) ∧ Below w.heap.size w w' := by
  go_enter Tryz.func19, Tryz.ntmps19
  go_wp2_with fail
  refine (valid0 _).mono ?_
  rintro e w1 ⟨rfl, hB⟩
  have hb1 : Below w.heap.size w w1 := (((Below.refl _ w).alloc (Nat.le_refl _) _).alloc (by simp) _).trans (hB.mono (by simp; omega))
  clear hB
  go_wp2
  go_ret
  exact ⟨rfl, hb1⟩

theorem liars1 (w : World) (p : Option Addr) (c : Nat) : Calls Tryz.prog 20 #[noFleet, .slice p 1 c, .slice none 0 0] w fun e w' => e = .returned (.tuple #[.slice none 0 0, .int .i64 1]) ∧ Below w.heap.size w w' := by
  go_enter Tryz.func20, Tryz.ntmps20
  go_wp2
  go_ret2
  exact ⟨rfl, (Below.refl _ _).alloc (Nat.le_refl _) _⟩

theorem keysFn (w : World) (bm : Nat) : Calls Tryz.prog 34 #[.map (some bm)] w fun e w' => e = .returned (.func (.func 45) #[] #[.pointer (some ⟨w.heap.size, 0, none⟩)]) ∧ w.alloc (.cells #[.map (some bm)] 80) = w' := by
  go_enter Tryz.func34, Tryz.ntmps34
  go_wp2
  go_ret
  exact ⟨rfl, rfl⟩

theorem insertion0 (w : World) (p : Option Addr) (c : Nat) : Calls Tryz.prog 89 #[.slice p 0 c, .int .i64 0, .int .i64 0] w fun e w' => e = .returned (.tuple #[]) ∧ w' = w := by
  go_enter Tryz.func89, Tryz.ntmps89
  go_wp2
  go_loop [6] (fun i => i = .int .i64 1) (fun _ => 0)
  case atStart => rfl
  case round =>
    subst hrel
    go_wp2
    go_end0
    exact ⟨rfl, rfl⟩
theorem len0 (w : World) : Calls Tryz.prog 61 #[.int .u64 0] w fun e w' => (∃ n, e = .returned (.int .i64 n)) ∧ w' = w := by
  go_enter Tryz.func61, Tryz.ntmps61
  go_wp2
  go_ret
  exact ⟨⟨_, rfl⟩, rfl⟩
theorem pdq0 (w : World) (p : Option Addr) (c : Nat) (n : Int) : Calls Tryz.prog 60 #[.slice p 0 c, .int .i64 0, .int .i64 0, .int .i64 n] w fun e w' => e = .returned (.tuple #[]) ∧ w' = w := by
  go_enter Tryz.func60, Tryz.ntmps60
  go_wp2
  go_loop [1, 2, 3] (fun a b l => a = .int .i64 0 ∧ b = .int .i64 0 ∧ l = .int .i64 n) (fun _ _ _ => 0)
  case atStart => exact ⟨rfl, rfl, rfl⟩
  case round =>
    obtain ⟨rfl, rfl, rfl⟩ := hrel
    go_wp2_with fail
    refine (insertion0 _ _ _).mono ?_
    rintro e w1 ⟨rfl, rfl⟩
    go_wp2
    exact bodyPost_ret (v := .tuple #[]) (by simp [results, Tryz.results60, go_sem]) rfl ⟨rfl, rfl⟩
theorem sort0 (w : World) (p : Option Addr) (c : Nat) : Calls Tryz.prog 44 #[.slice p 0 c] w fun e w' => e = .returned (.tuple #[]) ∧ w' = w := by
  go_enter Tryz.func44, Tryz.ntmps44
  go_wp2_with fail
  refine (len0 _).mono ?_
  rintro e w1 ⟨⟨n, rfl⟩, rfl⟩
  go_wp2_with fail
  refine (pdq0 _ _ _ _).mono ?_
  rintro e w1 ⟨rfl, rfl⟩
  go_wp2
  go_end0
  exact ⟨rfl, rfl⟩

theorem keys1 (n : Nat) (K : Nat) (w : World) (b bm clock : Nat) (hc : w.cell? ⟨b, 0, none⟩ = some (.map (some bm))) (hbl : b < w.heap.size) (hm : w.heap[bm]? = some (.map #[] clock)) :
    SeqP Fence.wide n Tryz.prog 45 #[.pointer (some ⟨b, 0, none⟩)] (fun x : Int => #[.int .i64 x]) (fun pre _ _ => pre.length < 4800) (KeepB K) (fun xs => xs = []) w := by
  intro l J W hW hJ hY h0'
  have c0 : W.cell? ⟨b, 0, none⟩ = some (.map (some bm)) := (hW.cell (p := ⟨b, 0, none⟩) hbl).trans hc
  have hm0 : W.heap[bm]? = some (.map #[] clock) := (hW.block bm (Array.getElem?_eq_some_iff.1 hm).1).trans hm
  refine callsIn_of_wp Tryz.func45 rfl trivial ?_ rfl
  simp only [Tryz.ntmps45, List.size_toArray, List.length_cons, List.length_nil, Nat.reduceAdd, Nat.reduceSub, Array.replicate_succ, Array.replicate_zero, List.push_toArray, List.append_toArray, List.nil_append, List.cons_append]
  have hr := run_range_map (P := Tryz.prog) W 80 3 4 bm #[] clock Tryz.underlying80 hm0
  have hJ1 := hJ _ _ _ h0' (grown_of_below ((Below.refl W.heap.size W).alloc (Nat.le_refl _) (.mapIter (some bm) clock #[] clock)) none)
  have hi1 : (W.alloc (.mapIter (some bm) clock #[] clock)).heap[W.heap.size]? = some (.mapIter (some bm) clock #[] clock) := World.alloc_heap_new _ _
  have hm1 : (W.alloc (.mapIter (some bm) clock #[] clock)).heap[bm]? = some (.map #[] clock) := (Below.heap_alloc _ _ _ (Array.getElem?_eq_some_iff.1 hm0).1).trans hm0
  clear hm hm0 hJ hY hW hc h0'
  gi_wp2
  generalize W.alloc (.mapIter (some bm) clock #[] clock) = W2 at *
  clear hr
  gi_loopw [3] (fun _ wr => wr.heap[W.heap.size]? = some (.mapIter (some bm) clock #[] clock) ∧ wr.heap[bm]? = some (.map #[] clock) ∧ J [] wr) (fun _ _ => 0)
  case atStart => exact ⟨hi1, hm1, hJ1⟩
  case round =>
    obtain ⟨hi, hm, hJ2⟩ := hrel
    have hnx : ∀ ty, (Instr.next (.pointer (some ⟨W.heap.size, 0, none⟩)) false ty).run Tryz.prog wr = .ok (.tuple #[.bool false]) wr := fun ty => by
      rcases run_next_at (P := Tryz.prog) wr ty W.heap.size bm clock clock #[] #[] clock hi hm (fun x hx => by simp at hx) (Nat.le_refl _) with ⟨_, h⟩ | ⟨e, he, _⟩
      · exact h
      · simp [leftOf] at he
    clear hi hm hi1 hm1 hJ1
    gi_wp2
    go_end0
    exact ⟨⟨_, rfl⟩, _, rfl, hJ2⟩

theorem sorted0 (w : World) (b bm clock : Nat) (hc : w.cell? ⟨b, 0, none⟩ = some (.map (some bm))) (hbl : b < w.heap.size) (hm : w.heap[bm]? = some (.map #[] clock)) :
    Calls Tryz.prog 33 #[.func (.func 45) #[] #[.pointer (some ⟨b, 0, none⟩)]] w fun e w' => (∃ p c, e = .returned (.slice p 0 c)) ∧ Below w.heap.size w w' := by
  have H := Lib.hid (collect w 45 _ (Nat.le_refl _) (keys1 4 w.heap.size w b bm clock hc hbl hm) (enters_of Tryz.func45 (by kernel_rfl) rfl) (fun _ _ _ _ _ _ h _ _ => h) (fun pre x W h => by omega))
  clear hc hbl hm
  go_enter Tryz.func33, Tryz.ntmps33
  go_wp2_with fail
  refine H.out.mono ?_
  rintro e w1 ⟨v, xs, rfl, rfl, hO, hB⟩
  obtain ⟨p, c, rfl⟩ := hO.slice
  clear hO
  go_wp2_with fail
  refine (sort0 _ _ _).mono ?_
  rintro e w2 ⟨rfl, rfl⟩
  go_wp2
  go_ret
  exact ⟨⟨p, c, rfl⟩, hB⟩

theorem liars0 (w : World) : Calls Tryz.prog 20 #[noFleet, .slice none 0 0, .slice none 0 0] w fun e w' => (∃ p c, e = .returned (.tuple #[.slice p 0 c, .int .i64 0])) ∧ Below w.heap.size w w' := by
  have hmk : ∀ W : World, (Instr.makeMap 80 none).run Tryz.prog W = .ok (.map (some W.heap.size)) (W.alloc (.map #[] 0)) := fun _ => rfl
  go_enter Tryz.func20, Tryz.ntmps20
  go_wp2_with fail
  have hb0 : Below w.heap.size w ((w.alloc (.cells #[.slice none 0 0, .slice none 0 0, .slice none 0 0, .slice none 0 0] 56)).alloc (.map #[] 0)) := ((Below.refl _ _).alloc (Nat.le_refl _) _).alloc (by simp) _
  have hm0 : ((w.alloc (.cells #[.slice none 0 0, .slice none 0 0, .slice none 0 0, .slice none 0 0] 56)).alloc (.map #[] 0)).heap[w.heap.size + 1]? = some (.map #[] 0) := heap_new' _ _ _ (by simp)
  generalize (w.alloc (.cells #[.slice none 0 0, .slice none 0 0, .slice none 0 0, .slice none 0 0] 56)).alloc (.map #[] 0) = w1 at *
  go_loopw [20] (fun i wr => i = .int .i64 0 ∧ wr.heap[w.heap.size + 1]? = some (.map #[] 0) ∧ Below w.heap.size w wr) (fun _ _ => 0)
  case atStart => exact ⟨rfl, hm0, hb0⟩
  case round =>
    clear hm0 hb0 hmk
    obtain ⟨rfl, hm, hb⟩ := hrel
    go_wp2_with fail
    refine (keysFn _ _).mono ?_
    rintro e w2 ⟨rfl, rfl⟩
    have hc2 : (wr.alloc (.cells #[.map (some (w.heap.size + 1))] 80)).cell? ⟨wr.heap.size, 0, none⟩ = some (.map (some (w.heap.size + 1))) := cell_var (World.alloc_heap_new _ _)
    have hm2 : (wr.alloc (.cells #[.map (some (w.heap.size + 1))] 80)).heap[w.heap.size + 1]? = some (.map #[] 0) := (Below.heap_alloc _ _ _ (Array.getElem?_eq_some_iff.1 hm).1).trans hm
    have hb2 : Below w.heap.size w (wr.alloc (.cells #[.map (some (w.heap.size + 1))] 80)) := hb.alloc hb.size _
    have H := Lib.hid (sorted0 _ wr.heap.size (w.heap.size + 1) 0 hc2 (by simp) hm2)
    clear hc2 hm2 hm hb
    go_wp2_with fail
    refine H.out.mono ?_
    rintro e w3 ⟨⟨p, c, rfl⟩, hB⟩
    have hb3 := hb2.trans (hB.mono hb2.size)
    clear H hB hb2
    go_wp2
    go_ret2
    exact ⟨⟨p, c, rfl⟩, hb3⟩
end Go.Proofs.YteglnpanimgelaaGreatDoor
