/- interp's assignments: the map of nine method values, entry by entry. -/
import Derived.Test.YtllomcmhkocdfaaGreatDoorMCells
import Derived.WideMake
namespace Go.Proofs.YtllomcmhkocdfaaGreatDoor
open Go Go.RowKit Mem
set_option maxRecDepth 100000

theorem run_mapUp2 {P : Program} {w : World} (mty kt et : TypeId) (r clock : Nat) (es : Array MapEntry) (k : Int) (val : Value) (hm : P.underlying mty = some (.map kt et)) (hk : P.underlying kt = some (.int .i64)) (hf : Instr.findNow (.int .i64) (.int .i64 k) es.toList 0 = some none) (hb : w.heap[r]? = some (.map es clock)) :
    (Instr.mapUpdate mty (.map (some r)) (.int .i64 k) val).run P w = .ok () { w with heap := w.heap.setIfInBounds r (.map (es.push { key := .int .i64 k, val := val, born := clock }) (clock + 1)) } := by
  have hc : (Instr.checkKey false 10000 kt (.int .i64 k)).run P w = .ok () w := MapKept.run_checkKey (k := .int .i64 k) hk (by simp [MapKept.IsKey]) false 9999
  simp [Instr.mapUpdate, run_underlying hm, MapKept.run_getObj_map hb, hc, MapKept.run_findKey hk hf, MapKept.run_setObj_map _ hb, Result.andThen]
/-- the functions of the statements that assign, by kind less one -/
def fnl : List Nat := [33, 34, 35, 36, 37, 38, 39, 40, 41]
/-- the method value of the kind k + 1 -/
def fnV (x : Value) (k : Nat) : Value := .func (.func (fnl.getD k 0)) #[x] #[]
def MapF (w : World) (r : Nat) (x : Value) (n : Nat) : Prop := ∃ es clock, w.heap[r]? = some (.map es clock) ∧ es.toList.length = n ∧ ∀ j e, es.toList[j]? = some e → e.key = .int .i64 ((j : Int) + 1) ∧ e.val = fnV x j
theorem findNow_out (x : Value) (k : Int) : ∀ (es : List MapEntry) (b : Nat), (∀ j e, es[j]? = some e → e.key = .int .i64 ((b + j : Nat) + 1) ∧ e.val = fnV x (b + j)) → (b + es.length : Nat) < k → ∀ i, Instr.findNow (.int .i64) (.int .i64 k) es i = some none
  | [], _, _, _, _ => rfl
  | e :: es, b, h, hk, i => by
    have h0 := (h 0 e rfl).1
    have hne : (k == ((b + 0 : Nat) : Int) + 1) = false := by simp only [List.length_cons] at hk; simp; omega
    unfold Instr.findNow
    rw [h0]
    simp only [Instr.sameNow, if_true, hne]
    exact findNow_out x k es (b + 1) (fun j e he => by have := h (j + 1) e (by simpa using he); rw [show b + 1 + j = b + (j + 1) by omega]; exact this) (by simp only [List.length_cons] at hk; omega) _
theorem findNow_in (x : Value) (k : Nat) : ∀ (es : List MapEntry) (b : Nat), (∀ j e, es[j]? = some e → e.key = .int .i64 ((b + j : Nat) + 1) ∧ e.val = fnV x (b + j)) → b ≤ k → k < b + es.length → ∀ i, ∃ q, Instr.findNow (.int .i64) (.int .i64 ((k : Int) + 1)) es i = some (some (q, fnV x k))
  | [], b, _, h1, h2, _ => by simp at h2; omega
  | e :: es, b, h, h1, h2, i => by
    have h0 := h 0 e rfl
    unfold Instr.findNow
    rw [h0.1]
    by_cases hb : b = k
    · subst hb
      have hne : ((b : Int) + 1 == ((b + 0 : Nat) : Int) + 1) = true := by simp
      simp only [Instr.sameNow, if_true, hne]
      exact ⟨i, by rw [h0.2]; rfl⟩
    · have hne : ((k : Int) + 1 == ((b + 0 : Nat) : Int) + 1) = false := by simp; omega
      simp only [Instr.sameNow, if_true, hne]
      exact findNow_in x k es (b + 1) (fun j e he => by have := h (j + 1) e (by simpa using he); rw [show b + 1 + j = b + (j + 1) by omega]; exact this) (by omega) (by simp only [List.length_cons] at h2; omega) _
theorem mapF_up {P : Program} {w : World} (mty kt et : TypeId) (r : Nat) (x : Value) (n : Nat) (hm : P.underlying mty = some (.map kt et)) (hk : P.underlying kt = some (.int .i64)) (h : MapF w r x n) :
    ∃ w', (Instr.mapUpdate mty (.map (some r)) (.int .i64 ((n : Int) + 1)) (fnV x n)).run P w = .ok () w' ∧ MapF w' r x (n + 1) ∧ ∀ B, B ≤ r → Below B w w' := by
  obtain ⟨es, clock, hb, hl, hes⟩ := h
  refine ⟨_, run_mapUp2 mty kt et r clock es ((n : Int) + 1) (fnV x n) hm hk (findNow_out x _ _ 0 (fun j e he => by simpa using hes j e he) (by omega) 0) hb, ⟨es.push { key := .int .i64 ((n : Int) + 1), val := fnV x n, born := clock }, clock + 1, ?_, ?_, ?_⟩, ?_⟩
  · have := (Array.getElem?_eq_some_iff.1 hb).1
    simp [this]
  · rw [Array.toList_push, List.length_append, hl]; rfl
  · intro j e he
    rw [Array.toList_push] at he
    by_cases hj : j < n
    · exact hes j e (by rw [List.getElem?_append_left (by omega)] at he; exact he)
    · rw [List.getElem?_append_right (by omega), hl] at he
      obtain rfl : j = n := by
        have := (List.getElem?_eq_some_iff.1 he).1
        simp at this
        omega
      simp at he
      subst he
      exact ⟨rfl, rfl⟩
  · intro B hB
    refine ⟨rfl, rfl, rfl, by simp, fun j hj => ?_⟩
    simp only [Array.getElem?_setIfInBounds]
    rw [if_neg (by omega)]
theorem insert_law2 {P : Program} {ops : Array Oper} {rest : List Oper} {o : Oper} {a : Act} {w : World} {Q : Exit → Act → World → Prop} {x : Value} (mty kt et : TypeId) (m k v : Operand) (hgd : o.guard = none) (ho : o.op = .insert mty m k v) (r : Nat) (hmv : a.eval m = .map (some r)) (n : Nat) (i : Int) (hkv : a.eval k = .int .i64 i) (hi : (n : Int) + 1 = i)
    (hvv : a.eval v = fnV x n) (hm : P.underlying mty = some (.map kt et)) (hk : P.underlying kt = some (.int .i64)) (h : MapF w r x n) (hh : ∀ w', MapF w' r x (n + 1) → (∀ B, B ≤ r → Below B w w') → wpList P ops Q rest (a.put o.dst undef) w') : wpList P ops Q (o :: rest) a w := by
  subst hi
  refine wpList_plain hgd fun K hK => ?_
  obtain ⟨w', h1, h2, h3⟩ := mapF_up (P := P) mty kt et r x n hm hk h
  unfold Oper.wp
  simp [execOp, ho, hmv, hkv, hvv, h1, Result.andThen]
  exact hK _ _ (hh w' h2 h3)
/-- what lies at a kind -/
theorem run_lookF {w : World} {r : Nat} {x : Value} (h : MapF w r x 9) (k : Nat) (hk : k < 9) : (Instr.lookup 72 (.map (some r)) (.int .i64 ((k : Int) + 1)) false).run Tryz.prog w = .ok (fnV x k) w := by
  obtain ⟨es, clock, hb, hl, hes⟩ := h
  obtain ⟨q, hq⟩ := findNow_in x k es.toList 0 (fun j e he => by simpa using hes j e he) (Nat.zero_le _) (by omega) 0
  have hne : es.isEmpty = false := by
    cases he : es.isEmpty with
    | false => rfl
    | true => rw [Array.isEmpty_iff] at he; subst he; simp at hl
  have hc : (Instr.checkKey false 10000 3 (.int .i64 ((k : Int) + 1))).run Tryz.prog w = .ok () w := (MapKept.run_checkKey (k := .int .i64 ((k : Int) + 1)) Tryz.underlying3 (by simp [MapKept.IsKey]) false 9999)
  simp [Instr.lookup, run_underlying Tryz.underlying72, MapKept.run_getObj_map hb, hne, hc, MapKept.run_findKey Tryz.underlying3 hq, Result.andThen]

set_option maxHeartbeats 4000000 in
theorem iAssign2 (w : World) (x : Value) : Calls Tryz.prog 22 #[x] w fun e w' => ∃ b, e = .returned (.map (some b)) ∧ MapF w' b x 9 ∧ w.heap.size ≤ b ∧ Below w.heap.size w w' := by
  have hmf : ∀ (fn : Fn) (first cap : Array Value) (w : World), (Instr.makeFunc fn first cap).run Tryz.prog w = .ok (.func fn first cap) w := fun _ _ _ _ => rfl
  have hmm := @run_makeMap Tryz.prog
  have hB : Below w.heap.size w (w.alloc (.map #[] 0)) := (Below.refl _ _).alloc (Nat.le_refl _) _
  have hM : MapF (w.alloc (.map #[] 0)) w.heap.size x 0 := ⟨#[], 0, World.alloc_heap_new _ _, rfl, fun j e he => by simp at he⟩
  go_enter Tryz.func22, Tryz.ntmps22
  go_wp2_with (first
    | ((with_reducible refine insert_law2 72 3 97 (.tmp 3) (.const (.int .i64 1)) (.tmp 5) ?_ ?_ w.heap.size ?_ 0 1 ?_ (by decide) ?_ ?_ ?_ hM ?_); rfl; rfl; rfl; rfl; rfl; exact Tryz.underlying72; exact Tryz.underlying3; (clear hM); (intro W hM0 hBW); (have hM : MapF W w.heap.size x 1 := hM0); (clear hM0); (replace hB := hB.trans (hBW _ (Nat.le_refl _))); (clear hBW))
    | ((with_reducible refine insert_law2 72 3 97 (.tmp 3) (.const (.int .i64 2)) (.tmp 7) ?_ ?_ w.heap.size ?_ 1 2 ?_ (by decide) ?_ ?_ ?_ hM ?_); rfl; rfl; rfl; rfl; rfl; exact Tryz.underlying72; exact Tryz.underlying3; (clear hM); (intro W hM0 hBW); (have hM : MapF W w.heap.size x 2 := hM0); (clear hM0); (replace hB := hB.trans (hBW _ (Nat.le_refl _))); (clear hBW))
    | ((with_reducible refine insert_law2 72 3 97 (.tmp 3) (.const (.int .i64 3)) (.tmp 9) ?_ ?_ w.heap.size ?_ 2 3 ?_ (by decide) ?_ ?_ ?_ hM ?_); rfl; rfl; rfl; rfl; rfl; exact Tryz.underlying72; exact Tryz.underlying3; (clear hM); (intro W hM0 hBW); (have hM : MapF W w.heap.size x 3 := hM0); (clear hM0); (replace hB := hB.trans (hBW _ (Nat.le_refl _))); (clear hBW))
    | ((with_reducible refine insert_law2 72 3 97 (.tmp 3) (.const (.int .i64 4)) (.tmp 11) ?_ ?_ w.heap.size ?_ 3 4 ?_ (by decide) ?_ ?_ ?_ hM ?_); rfl; rfl; rfl; rfl; rfl; exact Tryz.underlying72; exact Tryz.underlying3; (clear hM); (intro W hM0 hBW); (have hM : MapF W w.heap.size x 4 := hM0); (clear hM0); (replace hB := hB.trans (hBW _ (Nat.le_refl _))); (clear hBW))
    | ((with_reducible refine insert_law2 72 3 97 (.tmp 3) (.const (.int .i64 5)) (.tmp 13) ?_ ?_ w.heap.size ?_ 4 5 ?_ (by decide) ?_ ?_ ?_ hM ?_); rfl; rfl; rfl; rfl; rfl; exact Tryz.underlying72; exact Tryz.underlying3; (clear hM); (intro W hM0 hBW); (have hM : MapF W w.heap.size x 5 := hM0); (clear hM0); (replace hB := hB.trans (hBW _ (Nat.le_refl _))); (clear hBW))
    | ((with_reducible refine insert_law2 72 3 97 (.tmp 3) (.const (.int .i64 6)) (.tmp 15) ?_ ?_ w.heap.size ?_ 5 6 ?_ (by decide) ?_ ?_ ?_ hM ?_); rfl; rfl; rfl; rfl; rfl; exact Tryz.underlying72; exact Tryz.underlying3; (clear hM); (intro W hM0 hBW); (have hM : MapF W w.heap.size x 6 := hM0); (clear hM0); (replace hB := hB.trans (hBW _ (Nat.le_refl _))); (clear hBW))
    | ((with_reducible refine insert_law2 72 3 97 (.tmp 3) (.const (.int .i64 7)) (.tmp 17) ?_ ?_ w.heap.size ?_ 6 7 ?_ (by decide) ?_ ?_ ?_ hM ?_); rfl; rfl; rfl; rfl; rfl; exact Tryz.underlying72; exact Tryz.underlying3; (clear hM); (intro W hM0 hBW); (have hM : MapF W w.heap.size x 7 := hM0); (clear hM0); (replace hB := hB.trans (hBW _ (Nat.le_refl _))); (clear hBW))
    | ((with_reducible refine insert_law2 72 3 97 (.tmp 3) (.const (.int .i64 8)) (.tmp 19) ?_ ?_ w.heap.size ?_ 7 8 ?_ (by decide) ?_ ?_ ?_ hM ?_); rfl; rfl; rfl; rfl; rfl; exact Tryz.underlying72; exact Tryz.underlying3; (clear hM); (intro W hM0 hBW); (have hM : MapF W w.heap.size x 8 := hM0); (clear hM0); (replace hB := hB.trans (hBW _ (Nat.le_refl _))); (clear hBW))
    | ((with_reducible refine insert_law2 72 3 97 (.tmp 3) (.const (.int .i64 9)) (.tmp 21) ?_ ?_ w.heap.size ?_ 8 9 ?_ (by decide) ?_ ?_ ?_ hM ?_); rfl; rfl; rfl; rfl; rfl; exact Tryz.underlying72; exact Tryz.underlying3; (clear hM); (intro W hM0 hBW); (have hM : MapF W w.heap.size x 9 := hM0); (clear hM0); (replace hB := hB.trans (hBW _ (Nat.le_refl _))); (clear hBW)))
  go_ret
  exact ⟨_, rfl, hM, Nat.le_refl _, hB⟩
end Go.Proofs.YtllomcmhkocdfaaGreatDoor
