/- A range over a function whose body may leave the loop, where what is handed to the body lies in memory that the iterator has made (G says what the iterator shows of it). -/
import Derived.RangeFuncFrom
import Derived.RangeFuncLeaves
import Derived.Test.YtgflelodpcgmbaaGreatDoorMNWrite
import Derived.Test.YtgflelodpcgmbaaGreatDoorMOwnIn
namespace Go.Proofs.YtgflelodpcgmbaaGreatDoor.Mem
open Go Go.RowKit

/-- the iterator g: it hands over a list xs with S xs, each x as encs x in a world where G holds, or stops with Sp pre when a round says no more; a round that goes on keeps Kp -/
def SeqS {α : Type} (F : Fence) (n : Nat) (P : Program) (g : Nat) (lb : Array Value) (encs : α → Array Value) (G : List α → α → World → Prop) (Kp : World → World → Prop) (S Sp : List α → Prop) (w : World) : Prop :=
  ∀ (l : Nat) (J Jx : List α → World → Prop) (W : World), Below w.heap.size w W → (∀ s A B, J s A → Below W.heap.size A B → J s B) → (∀ s A B, Jx s A → Below A.heap.size A B → Jx s B) →
    (∀ pre x W1, J pre W1 → G pre x W1 → YieldAt F (n - 1) P l (encs x) W1 fun e W' => (e = .returned (.bool true) ∧ J (pre ++ [x]) W' ∧ Kp W1 W') ∨ (e = .returned (.bool false) ∧ Jx (pre ++ [x]) W')) →
    J [] W → CallsIn F n P g (#[.func (.yield l) #[] #[]] ++ lb) W fun e W' => (∃ v, e = .returned v) ∧ ((∃ xs, S xs ∧ J xs W') ∨ (∃ pre, Sp pre ∧ Jx pre W'))

variable {F : Fence} {n : Nat} {P : Program}

theorem rangeS {α : Type} {g : Operand} {ps : Array Tmp} {assign body : Code} {Q : Exit → Act → World → Prop} {a : Act} {w : World}
    (hro : F.round = none) (h1 : 1 ≤ n) {gf : Nat} {lb : Array Value} (hg : a.eval g = .func (.func gf) #[] lb) (hFg : F.fn gf) (eg : ∀ args w, (callFunc gf args).run P w = .ok (.enter gf args) w)
    {encs : α → Array Value} {G : List α → α → World → Prop} {Kp : World → World → Prop} {S Sp : List α → Prop} {w0 : World} (hseq : SeqS F (n - 1) P gf lb encs G Kp S Sp w0)
    (hKt : ∀ {A B C : World}, Kp A B → Kp B C → Kp A C) (hKb : ∀ (W : World) (l : Nat) (o o' : Obj), w.heap.size ≤ l → W.heap[l]? = some o → o.isCells = false → o.isWalk = false → Kp W (W.putObj l o'))
    (hGb : ∀ (pre : List α) (x : α) (W : World) (l : Nat) (o o' : Obj), G pre x W → W.heap[l]? = some o → o.isCells = false → G pre x (W.putObj l o'))
    (hb0 : Below w0.heap.size w0 w) (hps : ∀ x, (encs x).size = ps.size)
    (I : List α → World → Prop) (Ix : Code → List α → World → Prop) (hI : OwnFrom w.heap.size I) (hIx : ∀ c, OwnFrom w.heap.size (Ix c)) (hIb : ∀ s A B, I s A → Below w.heap.size A B → I s B) (hIxb : ∀ c s A B, Ix c s A → Below A.heap.size A B → Ix c s B) (h0 : I [] w) (a₁ : α → Act)
    (hassign : ∀ (l : Nat) (x : α) (W : World) (K : Act → World → Prop), K (a₁ x) W →
      assign.wpIn (F.inRound l) (n - 1 - 1) P (Exit.then K (fun _ _ _ => False)) { tmps := (ps.zip (encs x)).foldl (fun t (p, v) => t.setIfInBounds p v) a.tmps, defers := [] } W)
    (hbody : ∀ (l : Nat) (pre : List α) (x : α) (W : World), I pre W → G pre x W → body.wpIn (F.inRound l) (n - 1 - 1) P (ownPostK Kp I Ix (pre ++ [x]) W) (a₁ x) W)
    (hdone : ∀ (D : Nat) (xs : List α) (W : World), w.heap.size ≤ D → S xs → I xs W → W.heap[D]? = some (.deferred (some [])) → Q .normal { a with defers := { target := .collected D, args := #[] } :: a.defers } W)
    (hstop : ∀ (D : Nat) (c : Code) (pre : List α) (W : World), w.heap.size ≤ D → Sp pre → Ix c pre W → W.heap[D]? = some (.deferred (some [])) → c.wpIn F n P Q { a with defers := { target := .collected D, args := #[] } :: a.defers } W) :
    (Code.rangeFunc g ps assign body).wpIn F n P Q a w := by
  refine wpIn_rangeFunc ?_
  intro fn hfn
  rw [hro]
  obtain ⟨rec, hrec⟩ : ∃ rec : LoopState → Option Code → Loop, rec = fun st pe => { state := st, pending := pe, fn, tmps := a.tmps, params := ps, assign, body, defers := w.heap.size } := ⟨_, rfl⟩
  obtain ⟨W1, hW1⟩ : ∃ W1, (w.alloc (.deferred (some []))).alloc (.loop (rec .ready none)) = W1 := ⟨_, rfl⟩
  have hL1 : W1.heap[w.heap.size + 1]? = some (.loop (rec .ready none)) := by
    rw [← hW1]; have := World.alloc_heap_new (w.alloc (.deferred (some []))) (.loop (rec .ready none)); rwa [World.size_alloc] at this
  have hK1 : W1.heap[w.heap.size]? = some (.deferred (some [])) := by
    rw [← hW1]; exact (Below.heap_alloc _ _ _ (by simp)).trans (World.alloc_heap_new w _)
  have hI1 : I [] W1 := by rw [← hW1]; exact hI.alloc _ (hI.alloc _ h0)
  have hb1 : Below w0.heap.size w0 W1 := by
    rw [← hW1]; exact hb0.trans ((((Below.refl _ w).alloc (Nat.le_refl _) _).alloc (by simp) _).mono hb0.size)
  have hsz : w.heap.size + 2 ≤ W1.heap.size := by rw [← hW1]; simp
  refine ⟨w.heap.size + 1, [{ target := .collected w.heap.size, args := #[] }], W1, { target := .fn (.func gf) lb, args := #[.func (.yield (w.heap.size + 1)) #[] #[]] }, W1, gf,
    #[.func (.yield (w.heap.size + 1)) #[] #[]] ++ lb, W1, ?_, ?_, ?_, ?_, fun _ => h1, ?_⟩
  · rw [← hW1, hrec]; exact run_enterLoop_outer _ _ _ _ _
  · simp only [resolve, hg]
    simp [go_sem]
  · intro f' hf'; simp [Target.leads] at hf'; subst hf'; exact hFg
  · simp [invoke, go_sem, eg]
  · refine (hseq (w.heap.size + 1)
      (fun pre W => I pre W ∧ W.heap[w.heap.size + 1]? = some (.loop (rec .ready none)) ∧ W.heap[w.heap.size]? = some (.deferred (some [])))
      (fun pre W => ∃ c, Ix c pre W ∧ W.heap[w.heap.size + 1]? = some (.loop (rec .done (some c))) ∧ W.heap[w.heap.size]? = some (.deferred (some [])))
      W1 hb1
      (fun s A B hs hg' => ⟨hIb s A B hs.1 (hg'.mono (by omega)), (hg'.block _ (by omega)).trans hs.2.1, (hg'.block _ (by omega)).trans hs.2.2⟩)
      (fun s A B hs hg' => by
        obtain ⟨c, hc, hl, hk⟩ := hs
        exact ⟨c, hIxb c s A B hc hg', (hg'.block _ (Array.getElem?_eq_some_iff.1 hl).1).trans hl, (hg'.block _ (Array.getElem?_eq_some_iff.1 hk).1).trans hk⟩)
      ?_ ⟨hI1, hL1, hK1⟩).mono ?_
    · rintro pre x W ⟨hi, hl, hk⟩ hgx
      have hlt : w.heap.size + 1 < W.heap.size := (Array.getElem?_eq_some_iff.1 hl).1
      have hy := run_yield (P := P) (args := encs x) hl (by rw [hrec]; exact hps x)
      rw [hrec] at hy
      refine ⟨fn, _, assign, body, hy, roundIn_of_wpIn hfn (hassign _ x W _ ⟨_, run_beginRound hl (by rw [hrec]), ?_⟩)⟩
      have hl2 : (W.putObj (w.heap.size + 1) (.loop { rec .ready none with state := .busy })).heap[w.heap.size + 1]? = some (.loop { rec .ready none with state := .busy }) := World.putObj_heap_same hlt
      have hk2 : (W.putObj (w.heap.size + 1) (.loop { rec .ready none with state := .busy })).heap[w.heap.size]? = some (.deferred (some [])) := (World.putObj_heap_other (by omega)).trans hk
      have hw2 : Kp W (W.putObj (w.heap.size + 1) (.loop { rec .ready none with state := .busy })) := hKb _ _ _ _ (by omega) hl rfl rfl
      refine wpIn_mono (hbody _ pre x _ (hI.putObj _ hi (by omega) hl rfl) (hGb pre x W _ _ _ hgx hl rfl)) ?_
      have fin : ∀ (jump : Option Code) (W3 : World), KeepsOthers (W.putObj (w.heap.size + 1) (.loop { rec .ready none with state := .busy })) W3 →
          (Instr.endRound (w.heap.size + 1) jump).run P W3 = .ok (.bool jump.isNone) (W3.putObj (w.heap.size + 1) (.loop (rec (if jump.isNone then .ready else .done) jump))) ∧
          W3.heap[w.heap.size + 1]? = some (.loop { rec .ready none with state := .busy }) ∧
          (W3.putObj (w.heap.size + 1) (.loop (rec (if jump.isNone then .ready else .done) jump))).heap[w.heap.size + 1]? = some (.loop (rec (if jump.isNone then .ready else .done) jump)) ∧
          (W3.putObj (w.heap.size + 1) (.loop (rec (if jump.isNone then .ready else .done) jump))).heap[w.heap.size]? = some (.deferred (some [])) := fun jump W3 hk3 => by
        have hl3 := hk3.same _ _ hl2 rfl
        have := run_endRound (P := P) jump hl3
        rw [hrec] at this ⊢
        exact ⟨this, by rw [hrec] at hl3; exact hl3, World.putObj_heap_same (Array.getElem?_eq_some_iff.1 hl3).1, (World.putObj_heap_other (by omega)).trans (hk3.same _ _ hk2 rfl)⟩
      rintro e a3 W3 hp
      cases e with
      | normal =>
        obtain ⟨hk3, hkp3, hi3⟩ := hp
        obtain ⟨hr, hl3, hl4, hk4⟩ := fin none W3 hk3
        exact ⟨_, _, hr, .inl ⟨rfl, ⟨hI.putObj _ hi3 (by omega) hl3 rfl, hl4, hk4⟩, hKt (hKt hw2 hkp3) (hKb _ _ _ _ (by omega) hl3 rfl rfl)⟩⟩
      | ret =>
        obtain ⟨hk3, hi3⟩ := hp
        obtain ⟨hr, hl3, hl4, hk4⟩ := fin (some .ret) W3 hk3
        exact ⟨_, _, hr, .inr ⟨rfl, .ret, (hIx _).putObj _ hi3 (by omega) hl3 rfl, hl4, hk4⟩⟩
      | exit id =>
        obtain ⟨hk3, hi3⟩ := hp
        obtain ⟨hr, hl3, hl4, hk4⟩ := fin (some (.exit id)) W3 hk3
        exact ⟨_, _, hr, .inr ⟨rfl, .exit id, (hIx _).putObj _ hi3 (by omega) hl3 rfl, hl4, hk4⟩⟩
      | goto t =>
        obtain ⟨hk3, hi3⟩ := hp
        obtain ⟨hr, hl3, hl4, hk4⟩ := fin (some (.goto t)) W3 hk3
        exact ⟨_, _, hr, .inr ⟨rfl, .goto t, (hIx _).putObj _ hi3 (by omega) hl3 rfl, hl4, hk4⟩⟩
      | panic ch => exact hp.elim
      | outgrown => exact hp.elim
    · rintro e W2 ⟨⟨v, rfl⟩, (⟨xs, hS, hi, hl, hk⟩ | ⟨pre, hSp, c, hi, hl, hk⟩)⟩
      · exact ⟨none, _, by have := run_endLoop (P := P) hl (by rw [hrec]; simp); rw [hrec] at this; exact this, hdone _ xs _ (Nat.le_refl _) hS (hI.putObj _ hi (by omega) hl rfl) ((World.putObj_heap_other (by omega)).trans hk)⟩
      · exact ⟨some c, _, by have := run_endLoop (P := P) hl (by rw [hrec]; simp); rw [hrec] at this; exact this, hstop _ c pre _ (Nat.le_refl _) hSp ((hIx c).putObj _ hi (by omega) hl rfl) ((World.putObj_heap_other (by omega)).trans hk)⟩
end Go.Proofs.YtgflelodpcgmbaaGreatDoor.Mem
/- The words of a scope: plain law, and levels of words in memory. -/
namespace Go.Proofs.YtgflelodpcgmbaaGreatDoor
open Go Go.RowKit Mem
set_option maxRecDepth 100000

namespace Sc
abbrev Wd := List UInt8
def nextLvl (al : List UInt8) (ws : List Wd) : List Wd := ws.flatMap fun w => al.map fun b => w ++ [b]
def lvl (al : List UInt8) : Nat → List Wd
  | 0 => [[]]
  | n + 1 => nextLvl al (lvl al n)
def upTo (al : List UInt8) (n : Nat) : List Wd := (List.range n).flatMap (lvl al)
theorem upTo_succ (al : List UInt8) (n : Nat) : upTo al (n + 1) = upTo al n ++ lvl al n := by
  unfold upTo; rw [List.range_succ, List.flatMap_append]; simp
theorem next_len (al : List UInt8) (ws : List Wd) : (nextLvl al ws).length = ws.length * al.length := by
  induction ws with
  | nil => simp [nextLvl]
  | cons w ws ih => simp only [nextLvl, List.flatMap_cons, List.length_append, List.length_map, List.length_cons] at ih ⊢; rw [ih, Nat.add_mul]; omega
theorem lvl_len (al : List UInt8) (n : Nat) : (lvl al n).length = al.length ^ n := by
  induction n with
  | zero => rfl
  | succ n ih => show (nextLvl al (lvl al n)).length = _; rw [next_len, ih, Nat.pow_succ]
theorem word_len (al : List UInt8) (n : Nat) : ∀ w ∈ lvl al n, w.length = n := by
  induction n with
  | zero => intro w h; simp [lvl] at h; rw [h]; rfl
  | succ n ih =>
    intro w h
    simp only [lvl, nextLvl, List.mem_flatMap, List.mem_map] at h
    obtain ⟨x, hx, b, _, rfl⟩ := h
    rw [List.length_append, ih x hx]; rfl
theorem lvl_le (al : List UInt8) (n : Nat) (ha : al.length ≤ 4) (hn : n ≤ 9) : (lvl al n).length ≤ 262144 := by
  rw [lvl_len]
  exact Nat.le_trans (Nat.pow_le_pow_left ha n) (Nat.le_trans (Nat.pow_le_pow_right (by decide) hn) (by decide))
theorem next_take (al : List UInt8) (ws : List Wd) (i : Nat) (h : i < ws.length) : nextLvl al (ws.take (i + 1)) = nextLvl al (ws.take i) ++ al.map fun b => ws[i] ++ [b] := by
  rw [nextLvl, List.take_succ_eq_append_getElem h, List.flatMap_append]; simp [nextLvl]
theorem map_take (al : List UInt8) (w : Wd) (j : Nat) (h : j < al.length) : (al.take (j + 1)).map (fun b => w ++ [b]) = (al.take j).map (fun b => w ++ [b]) ++ [w ++ [al[j]]] := by
  rw [List.take_succ_eq_append_getElem h, List.map_append]; rfl
theorem upTo_prefix (al : List UInt8) {a b : Nat} (h : a ≤ b) : upTo al a <+: upTo al b := by
  induction b with
  | zero => rw [show a = 0 by omega]; exact List.prefix_refl _
  | succ b ih =>
    rcases Nat.lt_or_ge b a with h1 | h1
    · rw [show a = b + 1 by omega]; exact List.prefix_refl _
    · exact (ih h1).trans (by rw [upTo_succ]; exact List.prefix_append _ _)
end Sc

/-- cells outside D stay as they are -/
def KeepC (D : Nat → Prop) (A B : World) : Prop := A.heap.size ≤ B.heap.size ∧ ∀ r o, ¬ D r → A.heap[r]? = some o → o.isCells = true → B.heap[r]? = some o
theorem KeepC.trans {D : Nat → Prop} {A B C : World} (h : KeepC D A B) (k : KeepC D B C) : KeepC D A C := ⟨Nat.le_trans h.1 k.1, fun r o hd ho hc => k.2 r o hd (h.2 r o hd ho hc) hc⟩
theorem KeepC.ofBelow {D : Nat → Prop} {A B : World} (h : Below A.heap.size A B) : KeepC D A B := ⟨h.size, fun r _o _ ho _ => (h.block r (Array.getElem?_eq_some_iff.1 ho).1).trans ho⟩
theorem KeepC.row {D : Nat → Prop} {A B : World} {α : Type} {f : α → Value} {b : Nat} {t : TypeId} {l : List α} (h : KeepC D A B) (hr : Row f A b t l) (hd : ¬ D b) : Row f B b t l := h.2 b _ hd hr rfl
theorem KeepC.own {D : Nat → Prop} {A B : World} {α : Type} {f : α → Value} {base : Nat} {e : TypeId} {v : Value} {l : List α} (h : KeepC D A B) (ho : Mem.Own f A base e v l) (hd : ∀ r, base ≤ r → ¬ D r) : Mem.Own f B base e v l := by
  refine ⟨ho.1, ?_⟩
  rcases ho.2 with hn | ⟨g, cap, cur, rfl, hbg, hc, rest⟩
  · exact .inl hn
  · exact .inr ⟨g, cap, cur, rfl, hbg, h.2 g _ (hd g hbg) hc rfl, rest⟩
theorem own_type {w : World} {α β : Type} {f : α → Value} {g : β → Value} {b1 b2 : Nat} {e1 e2 : TypeId} {v1 v2 : Value} {l1 : List α} {l2 : List β} (h1 : Mem.Own f w b1 e1 v1 l1) (h2 : Mem.Own g w b2 e2 v2 l2) (hne : e1 ≠ e2) : ∀ k, v1.ownBlock = some k → some k ≠ v2.ownBlock := by
  intro k hk e
  rcases h1.2 with ⟨rfl, _⟩ | ⟨g1, c1, cur1, rfl, _, hc1, _⟩
  · cases hk
  · rcases h2.2 with ⟨rfl, _⟩ | ⟨g2, c2, cur2, rfl, _, hc2, _⟩
    · cases e
    · cases hk
      injection e with e
      simp only at e
      subst e
      rw [hc1] at hc2
      injection hc2 with hc2
      injection hc2 with _ hc2
      exact hne hc2

/-- v is a row of words that the call itself has made -/
def Lvl (W : World) (base : Nat) (v : Value) (ws : List Sc.Wd) : Prop :=
  ∃ vals : List OC, vals.length = ws.length ∧ Mem.Own oV W base 29 v vals ∧ ∀ i (h : i < vals.length) (h2 : i < ws.length), Mem.Own u8V W base 5 (oV vals[i]) ws[i]
theorem Lvl.slice {W : World} {base : Nat} {v : Value} {ws : List Sc.Wd} (h : Lvl W base v ws) : ∃ p cap, v = .slice p ws.length cap := by
  obtain ⟨vals, h1, h2, _⟩ := h
  obtain ⟨p, cap, rfl⟩ := h2.slice
  exact ⟨p, cap, by rw [h1]⟩
theorem Lvl.keep {D : Nat → Prop} {A B : World} {base : Nat} {v : Value} {ws : List Sc.Wd} (h : Lvl A base v ws) (hk : KeepC D A B) (hd : ∀ r, base ≤ r → ¬ D r) : Lvl B base v ws := by
  obtain ⟨vals, h1, h2, h3⟩ := h
  exact ⟨vals, h1, hk.own h2 hd, fun i h h4 => hk.own (h3 i h h4) hd⟩
theorem Lvl.below {A B : World} {base : Nat} {v : Value} {ws : List Sc.Wd} (h : Lvl A base v ws) (hb : Below A.heap.size A B) : Lvl B base v ws := by
  obtain ⟨vals, h1, h2, h3⟩ := h
  exact ⟨vals, h1, h2.below' hb, fun i h h4 => (h3 i h h4).below' hb⟩
theorem Lvl.nil (W : World) (base : Nat) : Lvl W base (.slice none 0 0) [] := ⟨[], rfl, Own.nil _ _ _, fun i h => by cases h⟩
/-- the k-th word -/
theorem Lvl.elem {W : World} {base : Nat} {p : Option Addr} {n c : Nat} {ws : List Sc.Wd} (h : Lvl W base (.slice p n c) ws) (k : Nat) (hk : k < ws.length) : ∃ b q m cw, p = some ⟨b, 0, none⟩ ∧ W.cell? ⟨b, k, none⟩ = some (.slice q m cw) ∧ m = ws[k].length ∧ Mem.Own u8V W base 5 (.slice q m cw) ws[k] := by
  obtain ⟨vals, h1, h2, h3⟩ := h
  have hkv : k < vals.length := by omega
  obtain ⟨g, hg⟩ : ∃ g, p = some ⟨g, 0, none⟩ := by
    rcases h2.2 with ⟨_, h0⟩ | ⟨g, cap, cur, he, _⟩
    · omega
    · injection he with he1 _; exact ⟨g, he1⟩
  subst hg
  have hat := h2.at g rfl k hkv
  rw [List.getElem?_eq_getElem hkv, Nat.zero_add] at hat
  have ho := h3 k hkv hk
  obtain ⟨q, cw, hq⟩ := ho.slice
  refine ⟨g, q, _, cw, rfl, ?_, rfl, ?_⟩
  · rw [hat]; show some (oV vals[k]) = _; rw [hq]
  · rw [← hq]; exact ho
/-- one more word behind -/
theorem Lvl.snoc {B : World} {base : Nat} {v' : Value} {vals : List OC} {ws : List Sc.Wd} {x : OC} {w : Sc.Wd} (h1 : vals.length = ws.length) (h3 : ∀ i (h : i < vals.length) (h2 : i < ws.length), Mem.Own u8V B base 5 (oV vals[i]) ws[i])
    (hx : Mem.Own u8V B base 5 (oV x) w) (ho : Mem.Own oV B base 29 v' (vals ++ [x])) : Lvl B base v' (ws ++ [w]) := by
  refine ⟨vals ++ [x], by simp [h1], ho, fun i h h2 => ?_⟩
  by_cases hi : i < vals.length
  · rw [List.getElem_append_left hi, List.getElem_append_left (by omega)]
    exact h3 i hi (by omega)
  · have : i = vals.length := by simp at h; omega
    subst this
    rw [List.getElem_append_right (Nat.le_refl _), List.getElem_append_right (by omega)]
    simpa [h1] using hx
theorem Lvl.mono {W : World} {base b' : Nat} {v : Value} {ws : List Sc.Wd} (h : Lvl W base v ws) (hb : b' ≤ base) : Lvl W b' v ws := by
  obtain ⟨vals, h1, h2, h3⟩ := h
  exact ⟨vals, h1, h2.mono hb, fun i h h4 => (h3 i h h4).mono hb⟩
/-- a row of words abides an append to another row -/
theorem Lvl.app {A B : World} {base b2 : Nat} {v nv : Value} {ws : List Sc.Wd} {vals : List OC} (h : Lvl A base v ws) (hn : Mem.Own oV A b2 29 nv vals) (hg : A.grownBy B nv.ownBlock) (hne : ∀ g, v.ownBlock = some g → some g ≠ nv.ownBlock) : Lvl B base v ws := by
  obtain ⟨vs, h1, h2, h3⟩ := h
  exact ⟨vs, h1, h2.grown' hg hne, fun i h h4 => (h3 i h h4).grown' hg (own_type (h3 i h h4) hn (by decide))⟩
theorem Lvl.row {W : World} {base : Nat} {v : Value} {ws : List Sc.Wd} (h : Lvl W base v ws) : ∀ g, v.ownBlock = some g → base ≤ g ∧ g < W.heap.size := by
  obtain ⟨vs, h1, h2, h3⟩ := h
  exact fun g hg => h2.lt g hg
theorem eltSB : Elt Tryz.prog 43 29 24 := Elt.mk' (z := .slice none 0 0) Tryz.underlying43 (by kernel_rfl) rfl
end Go.Proofs.YtgflelodpcgmbaaGreatDoor
