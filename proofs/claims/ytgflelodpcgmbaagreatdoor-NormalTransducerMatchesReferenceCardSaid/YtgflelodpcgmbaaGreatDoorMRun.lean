/- interp's run of a program of one statement that appends a field. -/
import Derived.Test.YtgflelodpcgmbaaGreatDoorMExec
import Derived.Tactics
import Derived.Tactics2
import Derived.Defers
import Derived.Recover
import Derived.Laws.Pointers
import Derived.WideMake
namespace Go.Proofs.YtgflelodpcgmbaaGreatDoor
open Go.RowKit Mem
set_option maxRecDepth 100000

/-- an execution ahead of its run -/
def ExecIn (w : World) (nm : ByteArray) (m : List UInt8) (base xb sb so sc bb bo bc mb : Nat) (nv av : OC) : Prop :=
  Row oV w xb 196 (exC sb so sc bb bo bc mb nv on on av) ∧ ∃ u ib io ic, (At oV w sb so (stC 13 0 nm (-1) (-1)) ∧ sb < w.heap.size) ∧ (w.cell? ⟨bb, bo, none⟩ = some (.slice (some ⟨ib, io, none⟩) 1 ic) ∧ bb < w.heap.size) ∧
    (w.cell? ⟨ib, io, none⟩ = some (.int .i64 0) ∧ ib < w.heap.size) ∧ (w.cell? ⟨mb, 0, none⟩ = some u ∧ mb < w.heap.size) ∧ Mem.Own u8V w base 5 u m ∧ m.length ≤ 4096 ∧ xb < base ∧ xb ≠ mb
/-- an execution behind its run -/
def ExecOut (w : World) (nm : ByteArray) (m : List UInt8) (xb sb so sc bb bo bc mb : Nat) (nv av : OC) : Prop :=
  ∃ g c ts u, Row oV w xb 196 (exC sb so sc bb bo bc mb nv ⟨.slice (some ⟨g, 0, none⟩) 1 c, rfl⟩ ts av) ∧ w.cell? ⟨g, 0, none⟩ = some (.string nm) ∧ w.cell? ⟨g, 1, none⟩ = some u ∧ Rd u8V w u m ∧ g < w.heap.size ∧ 1 ≤ c
variable {w w' : World} {nm : ByteArray} {m : List UInt8} {base xb sb so sc bb bo bc mb : Nat} {nv av : OC}
theorem ExecIn.below (h : ExecIn w nm m base xb sb so sc bb bo bc mb nv av) (hb : Below w.heap.size w w') : ExecIn w' nm m base xb sb so sc bb bo bc mb nv av := by
  obtain ⟨h1, u, ib, io, ic, ⟨h2, l2⟩, ⟨h3, l3⟩, ⟨h4, l4⟩, ⟨h5, l5⟩, h6, h7⟩ := h
  have hl : ∀ b, b < w.heap.size → b < w'.heap.size := fun b h => Nat.lt_of_lt_of_le h hb.size
  exact ⟨h1.below hb h1.lt, u, ib, io, ic, ⟨h2.below hb l2, hl _ l2⟩, ⟨(hb.cell (p := ⟨bb, bo, none⟩) l3).trans h3, hl _ l3⟩, ⟨(hb.cell (p := ⟨ib, io, none⟩) l4).trans h4, hl _ l4⟩, ⟨(hb.cell (p := ⟨mb, 0, none⟩) l5).trans h5, hl _ l5⟩, h6.below' hb, h7⟩
theorem ExecOut.below (h : ExecOut w nm m xb sb so sc bb bo bc mb nv av) (hb : Below w.heap.size w w') : ExecOut w' nm m xb sb so sc bb bo bc mb nv av := by
  obtain ⟨g, c, ts, u, h1, h2, h3, h4, h5, h6⟩ := h
  exact ⟨g, c, ts, u, h1.below hb h1.lt, (hb.cell (p := ⟨g, 0, none⟩) h5).trans h2, (hb.cell (p := ⟨g, 1, none⟩) h5).trans h3, h4.below hb, Nat.lt_of_lt_of_le h5 hb.size, h6⟩
theorem Rd.grownC {r : Nat} {t : TypeId} {l : List OC} {u : Value} (h4 : Rd u8V w u m) (hg : w.grownBy w' (some r)) (hr : Row oV w r t l) (hl : ∀ x ∈ l, ∀ y, oV x ≠ u8V y) : Rd u8V w' u m := by
  rcases h4 with hn | ⟨b, o, cap, rfl, hc, ha, hlt⟩
  · exact .inl hn
  · refine .inr ⟨b, o, cap, rfl, hc, ?_, Nat.lt_of_lt_of_le hlt hg.size⟩
    intro i hi
    refine (World.cell?_of_block (a := ⟨b, o + i, none⟩) (hg.block b hlt ?_)).trans (ha i hi)
    intro e
    injection e with e
    subst e
    have h7 := ha i hi
    have h8 := hr.cell? (o + i)
    rw [h8] at h7
    rw [List.getElem?_eq_getElem hi] at h7
    rcases Nat.lt_or_ge (o + i) l.length with hk | hk
    · rw [List.getElem?_eq_getElem hk] at h7
      simp only [Option.map_some, Option.some.injEq] at h7
      exact hl _ (List.getElem_mem hk) _ h7
    · rw [List.getElem?_eq_none (by simpa using hk)] at h7; cases h7
theorem ExecOut.grown {r : Nat} {t : TypeId} (h : ExecOut w nm m xb sb so sc bb bo bc mb nv av) (hg : w.grownBy w' (some r)) (hxr : xb ≠ r) (hr : Row oV w r t [ob false, oi 0]) : ExecOut w' nm m xb sb so sc bb bo bc mb nv av := by
  obtain ⟨g, c, ts, u, h1, h2, h3, h4, h5, h6⟩ := h
  have c0 := hr.cell? 0
  have hgr : g ≠ r := by
    rintro rfl
    rw [h2] at c0
    cases c0
  refine ⟨g, c, ts, u, h1.grown hg (by intro e; injection e with e; exact hxr e), (World.cell?_of_block (a := ⟨g, 0, none⟩) (hg.block g h5 (by intro e; injection e with e; exact hgr e))).trans h2, (World.cell?_of_block (a := ⟨g, 1, none⟩) (hg.block g h5 (by intro e; injection e with e; exact hgr e))).trans h3, ?_, Nat.lt_of_lt_of_le h5 hg.size, h6⟩
  exact Rd.grownC h4 hg hr (by intro x hx y; rcases List.mem_cons.1 hx with rfl | hx; · intro e; cases e
                               rcases List.mem_cons.1 hx with rfl | hx; · intro e; cases e
                               cases hx)
theorem iBlk (h : ExecIn w nm m base xb sb so sc bb bo bc mb nv av) : Calls Tryz.prog 159 #[.pointer (some ⟨xb, 0, none⟩), .int .i64 0] w fun e w' => e = .returned (.bool false) ∧ w.grownBy w' (some xb) ∧ ExecOut w' nm m xb sb so sc bb bo bc mb nv av := by
  obtain ⟨h1, u, ib, io, ic, ⟨h2, _⟩, ⟨h3, _⟩, ⟨h4, _⟩, ⟨h5, l5⟩, h6, h7, h8, h9⟩ := h
  exact iBlk0 w nm m u base xb sb so sc bb bo bc mb ib io ic nv av h1 h2 h3 h4 h5 l5 h6 h7 h8 h9

theorem catch_idle (p : Addr) (w : World) :
    CallsD Tryz.prog 158 #[.pointer (some p)] .returning w fun e u' w' => e = .returned (.tuple #[]) ∧ u' = .returning ∧ w' = w := by
  refine callsD_of_wpS Tryz.func158 rfl fun c₀ cs hu => ?_
  apply wpS_seq
  apply wpS_region
  simp [wpOpsS, go_sem, recoverD, hu, Tryz.ntmps158, Exit.thenS]
  apply wpS_seq
  apply wpS_region
  simp [wpOpsS, go_sem, Exit.thenS]
  refine wpS_cond (t := false) (by simp [Act.eval, Array.replicate]) ?_
  simp only [Bool.false_eq_true, if_false]
  refine wpS_of_wp (wp_skip ?_)
  cases c₀
  simp_all [bodyPostS, results, Tryz.results158]

theorem aggVerdict : AggT Tryz.prog 191 2 := ⟨fun _ => by kernel_rfl, fun _ => by kernel_rfl⟩
theorem iRun (hin : ExecIn w nm m base xb sb so sc bb bo bc mb nv av) : Calls Tryz.prog 131 #[.pointer (some ⟨xb, 0, none⟩)] w fun e w' =>
    e = .returned (.agg #[.bool true, .int .i64 0]) ∧ w.grownBy w' (some xb) ∧ ExecOut w' nm m xb sb so sc bb bo bc mb nv av := by
  have hmf : ∀ (fn : Fn) (first cap : Array Value) (w : World), (Instr.makeFunc fn first cap).run Tryz.prog w = .ok (.func fn first cap) w := fun _ _ _ _ => rfl
  have hB0 : Below w.heap.size w (w.alloc (.cells #[.bool false, .int .i64 0] 191)) := (Below.refl _ _).alloc (Nat.le_refl _) _
  have hs0 : w.heap.size < (w.alloc (.cells #[.bool false, .int .i64 0] 191)).heap.size := by simp
  have hr0 : Row oV (w.alloc (.cells #[.bool false, .int .i64 0] 191)) w.heap.size 191 [ob false, oi 0] := Row.new _ _ rfl
  have hi0 := hin.below hB0
  have lx := hin.1.lt
  clear hin
  go_enter_defers Tryz.func131, Tryz.ntmps131
  go_wp2_with fail
  generalize (w.alloc (.cells #[.bool false, .int .i64 0] 191)) = W at *
  refine (iBlk hi0).mono ?_
  rintro e W1 ⟨rfl, hG1, hO1⟩
  have hr1 := hr0.grown hG1 (by intro e; injection e with e; omega)
  have hG0 : w.grownBy W1 (some xb) := (grown_of_below hB0 (some xb)).andThen hG1 (fun j e => .inr e)
  clear hB0 hr0 hi0 hs0 hG1
  go_wp2_with (first
    | ((with_reducible refine store_agg (f := oV) (l := [ob false, oi 0]) (l' := [ob true, oi 0]) (t := 191) (C := #[.bool true, .int .i64 0]) aggVerdict (.tmp 2) (.tmp 6) ?_ ?_ w.heap.size ?_ ?_ ?_ hr1 ?_ oV_one ?_); rfl; rfl; rfl; rfl; rfl; rfl; (intro W2 hs2 hG2 hz2)))
  refine leaves_cons (f := 158) (args := #[.pointer (some ⟨w.heap.size, 0, none⟩)]) (by simp) (by simp [go_sem]) ?_
  refine (catch_idle ⟨w.heap.size, 0, none⟩ _).mono ?_
  rintro e u' w'' ⟨rfl, rfl, rfl⟩
  have hl := run_load_agg (f := oV) (l := [ob true, oi 0]) aggVerdict hs2.at
  have hO2 := hO1.grown hG2 (by omega) hr1
  have hG3 : w.grownBy w'' (some xb) := hG0.andThen hG2 (fun j e => by cases e; exact .inl (Nat.le_refl _))
  show Leaves _ _ _ _ [] .returning _
  refine ⟨_, (results_agg (f := oV) (l := [ob true, oi 0]) rfl _ aggVerdict w.heap.size 0 (by first | rfl | simp) hs2.at), rfl, hG3, hO2⟩
end Go.Proofs.YtgflelodpcgmbaaGreatDoor
/- interp's assignments: a map of nine method values. -/
namespace Go.Proofs.YtgflelodpcgmbaaGreatDoor
open Go Go.RowKit Mem
set_option maxRecDepth 100000

/-- block r is a map whose keys are ints below k -/
def MapI (w : World) (r : Nat) (k : Int) : Prop := ∃ es clock, w.heap[r]? = some (.map es clock) ∧ ∀ e ∈ es.toList, ∃ q, e.key = .int .i64 q ∧ q < k
theorem findNow_lt (k : Int) : ∀ (es : List MapEntry), (∀ e ∈ es, ∃ q, e.key = .int .i64 q ∧ q < k) → ∀ i, Instr.findNow (.int .i64) (.int .i64 k) es i = some none := by
  intro es
  induction es with
  | nil => intro _ i; rfl
  | cons e es ih =>
    intro h i
    obtain ⟨q, hq, hlt⟩ := h e (by simp)
    have hne : (k == q) = false := by simp; omega
    unfold Instr.findNow
    rw [hq]
    simp only [Instr.sameNow, if_true, hne]
    exact ih (fun e he => h e (by simp [he])) _
theorem run_mapUp {P : Program} {w : World} (mty kt et : TypeId) (r clock : Nat) (es : Array MapEntry) (k : Int) (val : Value) (hm : P.underlying mty = some (.map kt et)) (hk : P.underlying kt = some (.int .i64)) (hf : Instr.findNow (.int .i64) (.int .i64 k) es.toList 0 = some none) (hb : w.heap[r]? = some (.map es clock)) :
    (Instr.mapUpdate mty (.map (some r)) (.int .i64 k) val).run P w = .ok () { w with heap := w.heap.setIfInBounds r (.map (es.push { key := .int .i64 k, val := val, born := clock }) (clock + 1)) } := by
  have hc : (Instr.checkKey false 10000 kt (.int .i64 k)).run P w = .ok () w := MapKept.run_checkKey (k := .int .i64 k) hk (by simp [MapKept.IsKey]) false 9999
  simp [Instr.mapUpdate, run_underlying hm, MapKept.run_getObj_map hb, hc, MapKept.run_findKey hk hf, MapKept.run_setObj_map _ hb, Result.andThen]
theorem mapI_up {P : Program} {w : World} (mty kt et : TypeId) (r : Nat) (k : Int) (val : Value) (hm : P.underlying mty = some (.map kt et)) (hk : P.underlying kt = some (.int .i64)) (h : MapI w r k) :
    ∃ w', (Instr.mapUpdate mty (.map (some r)) (.int .i64 k) val).run P w = .ok () w' ∧ MapI w' r (k + 1) ∧ ∀ B, B ≤ r → Below B w w' := by
  obtain ⟨es, clock, hb, hes⟩ := h
  refine ⟨_, run_mapUp mty kt et r clock es k val hm hk (findNow_lt k _ hes 0) hb, ⟨es.push { key := .int .i64 k, val := val, born := clock }, clock + 1, ?_, ?_⟩, ?_⟩
  · have := (Array.getElem?_eq_some_iff.1 hb).1
    simp [this]
  · intro e he
    rw [Array.toList_push, List.mem_append, List.mem_singleton] at he
    rcases he with he | rfl
    · obtain ⟨q, h1, h2⟩ := hes e he
      exact ⟨q, h1, by omega⟩
    · exact ⟨k, rfl, by omega⟩
  · intro B hB
    refine ⟨rfl, rfl, rfl, by simp, fun j hj => ?_⟩
    simp only [Array.getElem?_setIfInBounds]
    rw [if_neg (by omega)]
theorem insert_law {P : Program} {ops : Array Oper} {rest : List Oper} {o : Oper} {a : Act} {w : World} {Q : Exit → Act → World → Prop} (mty kt et : TypeId) (m k v : Operand) (hgd : o.guard = none) (ho : o.op = .insert mty m k v) (r : Nat) (hmv : a.eval m = .map (some r)) (i : Int) (hkv : a.eval k = .int .i64 i)
    (hm : P.underlying mty = some (.map kt et)) (hk : P.underlying kt = some (.int .i64)) (h : MapI w r i) (hh : ∀ w', MapI w' r (i + 1) → (∀ B, B ≤ r → Below B w w') → wpList P ops Q rest (a.put o.dst undef) w') : wpList P ops Q (o :: rest) a w := by
  refine wpList_plain hgd fun K hK => ?_
  obtain ⟨w', h1, h2, h3⟩ := mapI_up (P := P) mty kt et r i (a.eval v) hm hk h
  unfold Oper.wp
  simp [execOp, ho, hmv, hkv, h1, Result.andThen]
  exact hK _ _ (hh w' h2 h3)

set_option maxHeartbeats 4000000 in
theorem iAssign (w : World) (x : Value) : Calls Tryz.prog 130 #[x] w fun e w' => ∃ b, e = .returned (.map (some b)) ∧ Below w.heap.size w w' := by
  have hmf : ∀ (fn : Fn) (first cap : Array Value) (w : World), (Instr.makeFunc fn first cap).run Tryz.prog w = .ok (.func fn first cap) w := fun _ _ _ _ => rfl
  have hmm := @run_makeMap Tryz.prog
  have hB : Below w.heap.size w (w.alloc (.map #[] 0)) := (Below.refl _ _).alloc (Nat.le_refl _) _
  have hM : MapI (w.alloc (.map #[] 0)) w.heap.size 1 := ⟨#[], 0, World.alloc_heap_new _ _, fun e he => by cases he⟩
  go_enter Tryz.func130, Tryz.ntmps130
  go_wp2_with (first
    | ((with_reducible refine insert_law 194 3 204 (.tmp 3) (.const (.int .i64 1)) (.tmp 5) ?_ ?_ w.heap.size ?_ 1 ?_ ?_ ?_ hM ?_); rfl; rfl; rfl; rfl; exact Tryz.underlying194; exact Tryz.underlying3; (clear hM); (intro W hM0 hBW); (have hM : MapI W w.heap.size 2 := hM0); (clear hM0); (replace hB := hB.trans (hBW _ (Nat.le_refl _))); (clear hBW))
    | ((with_reducible refine insert_law 194 3 204 (.tmp 3) (.const (.int .i64 2)) (.tmp 7) ?_ ?_ w.heap.size ?_ 2 ?_ ?_ ?_ hM ?_); rfl; rfl; rfl; rfl; exact Tryz.underlying194; exact Tryz.underlying3; (clear hM); (intro W hM0 hBW); (have hM : MapI W w.heap.size 3 := hM0); (clear hM0); (replace hB := hB.trans (hBW _ (Nat.le_refl _))); (clear hBW))
    | ((with_reducible refine insert_law 194 3 204 (.tmp 3) (.const (.int .i64 3)) (.tmp 9) ?_ ?_ w.heap.size ?_ 3 ?_ ?_ ?_ hM ?_); rfl; rfl; rfl; rfl; exact Tryz.underlying194; exact Tryz.underlying3; (clear hM); (intro W hM0 hBW); (have hM : MapI W w.heap.size 4 := hM0); (clear hM0); (replace hB := hB.trans (hBW _ (Nat.le_refl _))); (clear hBW))
    | ((with_reducible refine insert_law 194 3 204 (.tmp 3) (.const (.int .i64 4)) (.tmp 11) ?_ ?_ w.heap.size ?_ 4 ?_ ?_ ?_ hM ?_); rfl; rfl; rfl; rfl; exact Tryz.underlying194; exact Tryz.underlying3; (clear hM); (intro W hM0 hBW); (have hM : MapI W w.heap.size 5 := hM0); (clear hM0); (replace hB := hB.trans (hBW _ (Nat.le_refl _))); (clear hBW))
    | ((with_reducible refine insert_law 194 3 204 (.tmp 3) (.const (.int .i64 5)) (.tmp 13) ?_ ?_ w.heap.size ?_ 5 ?_ ?_ ?_ hM ?_); rfl; rfl; rfl; rfl; exact Tryz.underlying194; exact Tryz.underlying3; (clear hM); (intro W hM0 hBW); (have hM : MapI W w.heap.size 6 := hM0); (clear hM0); (replace hB := hB.trans (hBW _ (Nat.le_refl _))); (clear hBW))
    | ((with_reducible refine insert_law 194 3 204 (.tmp 3) (.const (.int .i64 6)) (.tmp 15) ?_ ?_ w.heap.size ?_ 6 ?_ ?_ ?_ hM ?_); rfl; rfl; rfl; rfl; exact Tryz.underlying194; exact Tryz.underlying3; (clear hM); (intro W hM0 hBW); (have hM : MapI W w.heap.size 7 := hM0); (clear hM0); (replace hB := hB.trans (hBW _ (Nat.le_refl _))); (clear hBW))
    | ((with_reducible refine insert_law 194 3 204 (.tmp 3) (.const (.int .i64 7)) (.tmp 17) ?_ ?_ w.heap.size ?_ 7 ?_ ?_ ?_ hM ?_); rfl; rfl; rfl; rfl; exact Tryz.underlying194; exact Tryz.underlying3; (clear hM); (intro W hM0 hBW); (have hM : MapI W w.heap.size 8 := hM0); (clear hM0); (replace hB := hB.trans (hBW _ (Nat.le_refl _))); (clear hBW))
    | ((with_reducible refine insert_law 194 3 204 (.tmp 3) (.const (.int .i64 8)) (.tmp 19) ?_ ?_ w.heap.size ?_ 8 ?_ ?_ ?_ hM ?_); rfl; rfl; rfl; rfl; exact Tryz.underlying194; exact Tryz.underlying3; (clear hM); (intro W hM0 hBW); (have hM : MapI W w.heap.size 9 := hM0); (clear hM0); (replace hB := hB.trans (hBW _ (Nat.le_refl _))); (clear hBW))
    | ((with_reducible refine insert_law 194 3 204 (.tmp 3) (.const (.int .i64 9)) (.tmp 21) ?_ ?_ w.heap.size ?_ 9 ?_ ?_ ?_ hM ?_); rfl; rfl; rfl; rfl; exact Tryz.underlying194; exact Tryz.underlying3; (clear hM); (intro W hM0 hBW); (have hM : MapI W w.heap.size 10 := hM0); (clear hM0); (replace hB := hB.trans (hBW _ (Nat.le_refl _))); (clear hBW)))
  go_ret
  exact ⟨_, rfl, hB⟩
end Go.Proofs.YtgflelodpcgmbaaGreatDoor
