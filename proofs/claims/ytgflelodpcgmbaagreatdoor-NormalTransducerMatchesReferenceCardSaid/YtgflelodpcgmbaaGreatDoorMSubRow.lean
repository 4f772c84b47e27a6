/- Slices of structs that the call owns: reading, growing, appending one element. -/
import Derived.Test.YtgflelodpcgmbaaGreatDoorMRHas
import Derived.Test.YtgflelodpcgmbaaGreatDoorMRangeS
import Derived.Test.YtgflelodpcgmbaaGreatDoorMMeets
import Derived.Test.YtgflelodpcgmbaaGreatDoorMPop
namespace Go.Proofs.YtgflelodpcgmbaaGreatDoor
open Go Go.RowKit Mem
set_option maxRecDepth 100000

theorem flat_get {α : Type} {K : Nat} (enc : α → List OC) : ∀ (l : List α) (_ : ∀ x ∈ l, (enc x).length = K) (i : Nat) (hi : i < l.length) (j : Nat), j < (enc l[i]).length → (l.flatMap enc)[i * K + j]? = (enc l[i])[j]? := by
  intro l
  induction l with
  | nil => intro _ i hi; simp at hi
  | cons a l ih =>
    intro hk i hi j hj
    rw [List.flatMap_cons]
    cases i with
    | zero =>
      simp only [Nat.zero_mul, Nat.zero_add, List.getElem_cons_zero] at hj ⊢
      rw [List.getElem?_append_left hj]
    | succ i =>
      simp only [List.getElem_cons_succ] at hj ⊢
      have ha : (enc a).length = K := hk a (List.mem_cons_self ..)
      rw [List.getElem?_append_right (by rw [ha, Nat.succ_mul]; omega), ha]
      rw [show (i + 1) * K + j - K = i * K + j by rw [Nat.succ_mul]; omega]
      exact ih (fun x hx => hk x (List.mem_cons_of_mem _ hx)) i (by simpa using hi) j hj
theorem flat_len {α : Type} {K : Nat} (enc : α → List OC) (l : List α) (hk : ∀ x, (enc x).length = K) : (l.flatMap enc).length = l.length * K := by
  induction l with
  | nil => simp
  | cons a l ih => rw [List.flatMap_cons, List.length_append, hk, ih, List.length_cons, Nat.succ_mul]; omega

/-- v is nil or a slice at the head of a block from base on; it reads as l, each element K cells -/
def OwnK {α : Type} (K : Nat) (enc : α → List OC) (w : World) (base : Nat) (e : TypeId) (v : Value) (l : List α) : Prop := w.ownsRow base e K v l.length ((l.flatMap enc).map oV)
section
variable {α : Type} {K : Nat} {enc : α → List OC} {w w' : World} {base : Nat} {e : TypeId} {v : Value} {l : List α}
theorem OwnK.slice (h : OwnK K enc w base e v l) : ∃ p cap, v = .slice p l.length cap := by
  rcases h.2 with ⟨rfl, h0⟩ | ⟨g, cap, cur, rfl, _⟩
  · exact ⟨none, 0, by rw [h0]⟩
  · exact ⟨_, _, rfl⟩
theorem OwnK.grown (h : OwnK K enc w base e v l) {row : Option Nat} (hg : w.grownBy w' row) (hne : ∀ g, v.ownBlock = some g → some g ≠ row) : OwnK K enc w' base e v l := by
  refine ⟨h.1, ?_⟩
  rcases h.2 with hn | ⟨g, cap, cur, rfl, hbg, hc, rest⟩
  · exact .inl hn
  · exact .inr ⟨g, cap, cur, rfl, hbg, (hg.block g (Array.getElem?_eq_some_iff.1 hc).1 (hne g rfl)).trans hc, rest⟩
theorem OwnK.below (h : OwnK K enc w base e v l) {B : Nat} (hb : Below B w w') (hB : ∀ g, v.ownBlock = some g → g < B) : OwnK K enc w' base e v l := by
  refine ⟨h.1, ?_⟩
  rcases h.2 with hn | ⟨g, cap, cur, rfl, hbg, hc, rest⟩
  · exact .inl hn
  · exact .inr ⟨g, cap, cur, rfl, hbg, (hb.block g (hB g rfl)).trans hc, rest⟩
theorem OwnK.lt (h : OwnK K enc w base e v l) : ∀ g, v.ownBlock = some g → base ≤ g ∧ g < w.heap.size := by
  intro g hg
  rcases h.2 with ⟨rfl, _⟩ | ⟨g2, cap, cur, rfl, hbg, hc, _⟩
  · cases hg
  · cases hg; exact ⟨hbg, (Array.getElem?_eq_some_iff.1 hc).1⟩
theorem OwnK.below' (h : OwnK K enc w base e v l) (hb : Below w.heap.size w w') : OwnK K enc w' base e v l := h.below hb fun g hg => (h.lt g hg).2
theorem OwnK.mono (h : OwnK K enc w base e v l) {b' : Nat} (hb : b' ≤ base) : OwnK K enc w b' e v l := by
  refine ⟨h.1, ?_⟩
  rcases h.2 with hn | ⟨g, cap, cur, rfl, hbg, rest⟩
  · exact .inl hn
  · exact .inr ⟨g, cap, cur, rfl, Nat.le_trans hb hbg, rest⟩
theorem OwnK.rd (h : OwnK K enc w base e v l) (hk : ∀ x, (enc x).length = K) : RdK K enc w v l := by
  rcases h.2 with ⟨rfl, h0⟩ | ⟨g, cap, cur, rfl, hb, hg, hn, hm, hs, ht⟩
  · exact .inl ⟨none, rfl, List.length_eq_zero_iff.1 h0⟩
  · refine .inr ⟨g, 0, cap, rfl, hn, fun i hi j hj => ?_, (Array.getElem?_eq_some_iff.1 hg).1⟩
    have h1 : ((l.flatMap enc).map oV)[i * K + j]? = (enc l[i])[j]?.map oV := by
      rw [List.getElem?_map, flat_get enc l (fun x _ => hk x) i hi j hj]
    have hlt : i * K + j < l.length * K := by
      have : (i + 1) * K ≤ l.length * K := Nat.mul_le_mul_right K hi
      rw [hk] at hj
      rw [Nat.succ_mul] at this
      omega
    rw [← ht, List.getElem?_take_of_lt hlt] at h1
    unfold World.cell?
    rw [hg]
    simp only [Nat.zero_add]
    show cur[i * K + j]? = _
    rw [← h1]
    simp
theorem OwnK.nil (w : World) (base : Nat) (e : TypeId) : OwnK K enc w base e (.slice none 0 0) ([] : List α) := World.ownsRow_nil w base e K
theorem OwnK.new0 (w : World) (base : Nat) (e : TypeId) (hb : base ≤ w.heap.size) : OwnK K enc (w.alloc (.cells #[] e)) base e (.slice (some ⟨w.heap.size, 0, none⟩) 0 0) ([] : List α) :=
  ⟨by simp, .inr ⟨w.heap.size, 0, _, rfl, hb, heap_alloc_new w _, Nat.le_refl _, by unfold maxLen; omega, by simp, by simp⟩⟩
theorem OwnK.type {β : Type} {g : β → Value} {b2 : Nat} {e2 : TypeId} {v2 : Value} {l2 : List β} (h1 : OwnK K enc w base e v l) (h2 : Mem.Own g w b2 e2 v2 l2) (hne : e ≠ e2) : ∀ k, v.ownBlock = some k → some k ≠ v2.ownBlock := by
  intro k hk e
  rcases h1.2 with ⟨rfl, _⟩ | ⟨g1, c1, cur1, rfl, _, hc1, _⟩
  · cases hk
  · rcases h2.2 with ⟨rfl, _⟩ | ⟨g2, c2, cur2, rfl, _, hc2, _⟩
    · cases e
    · cases hk
      injection e with e
      simp only at e
      subst e
      rw [hc1] at hc2
      injection hc2 with hc2
      injection hc2 with _ hc2
      exact hne hc2
theorem OwnK.row {β : Type} {g : β → Value} {b2 : Nat} {e2 : TypeId} {l2 : List β} (h1 : OwnK K enc w base e v l) (h2 : Row g w b2 e2 l2) (hne : e ≠ e2) : ∀ k, v.ownBlock = some k → k ≠ b2 := by
  rintro k hk rfl
  rcases h1.2 with ⟨rfl, _⟩ | ⟨g1, c1, cur1, rfl, _, hc1, _⟩
  · cases hk
  · cases hk
    unfold Row at h2
    rw [hc1] at h2
    injection h2 with hc2
    injection hc2 with _ hc2
    exact hne hc2
theorem own_row {β : Type} {f : α → Value} {g : β → Value} {b2 : Nat} {e2 : TypeId} {l2 : List β} (h1 : Mem.Own f w base e v l) (h2 : Row g w b2 e2 l2) (hne : e ≠ e2) : ∀ k, v.ownBlock = some k → k ≠ b2 := by
  rintro k hk rfl
  rcases h1.2 with ⟨rfl, _⟩ | ⟨g1, c1, cur1, rfl, _, hc1, _⟩
  · cases hk
  · cases hk
    unfold Row at h2
    rw [hc1] at h2
    injection h2 with hc2
    injection hc2 with _ hc2
    exact hne hc2
end
/-- what the model's table says of a slice type t over elements e of K cells -/
structure EltK (P : Program) (t e : TypeId) (K bytes : Nat) : Prop where
  ht : P.underlying t = some (.slice e)
  hi : ∃ i z, P.info? e = some i ∧ i.zero = some z ∧ i.size = K ∧ i.bytes = bytes ∧ z.cells.size = K
theorem EltK.mk' {P : Program} {t e : TypeId} {K bytes : Nat} {z : Value} (ht : P.underlying t = some (.slice e)) (h : (P.info? e).map (fun i => (i.zero, i.size, i.bytes)) = some (some z, K, bytes)) (hz : z.cells.size = K) : EltK P t e K bytes := by
  obtain ⟨i, h1, h2, h3, h4⟩ := info_parts h
  exact ⟨ht, i, z, h1, h2, h3, h4, hz⟩
section
variable {α : Type} {K : Nat} {enc : α → List OC} {w : World} {base : Nat} {e : TypeId} {v : Value} {l : List α}
variable {P : Program} {ops : Array Oper} {rest : List Oper} {o : Oper} {a : Act} {Q : Exit → Act → World → Prop}
/-- APPEND of one struct that was laid into a row of its own -/
theorem append_k {t : TypeId} {bytes : Nat} (E : EltK P t e K bytes) (hK : 0 < K) (hk : ∀ x, (enc x).length = K) (s x : Operand) (hgd : o.guard = none) (ho : o.op = .call { callee := .builtin .append, args := #[s, x], argTypes := #[t, t] })
    (hs : a.eval s = v) (hown : OwnK K enc w base e v l) (y : α) (C : Array Value) (hC : C = ((enc y).map oV).toArray) (e1 : TypeId) (hx : a.eval x = .slice (some ⟨w.heap.size, 0, none⟩) 1 1)
    (hn : (l.length + 1) * bytes ≤ 140737488355328) (hn2 : l.length + 1 ≤ 140737488355328) (hbase : base ≤ w.heap.size) (r : List α) (hr : l ++ [y] = r)
    (h : ∀ p cap w', OwnK K enc w' base e (.slice p r.length cap) r → Below base w w' → (w.alloc (.cells C e1)).grownBy w' v.ownBlock → wpList P ops Q rest (a.put o.dst (.slice p r.length cap)) w') :
    wpList P ops Q (o :: rest) a (w.alloc (.cells C e1)) := by
  subst hC
  obtain ⟨i, z, hi, hz, hs1, hby, hz1⟩ := E.hi
  have hown' : (w.alloc (.cells ((enc y).map oV).toArray e1)).ownsRow base e K v l.length ((l.flatMap enc).map oV) := World.ownsRow.alloc hown _
  have hrow : Row oV (w.alloc (.cells ((enc y).map oV).toArray e1)) w.heap.size e1 (enc y) := Row.new _ _ rfl
  refine wpList_append_own _ hgd s x t ho base e i z K bytes E.ht hi hz hs1 hby hz1 hK v l.length ((l.flatMap enc).map oV) hs hown' ⟨w.heap.size, 0, none⟩ 1 1 ((enc y).map oV) hx (by simp [hk]) ?_ ?_ (by unfold maxLen; omega) hn (by simp; omega) ?_
  · intro j u hj
    have h2 : ((⟨w.heap.size, 0, none⟩ : Addr).add j) = ⟨w.heap.size, j, none⟩ := by unfold Addr.add; split <;> simp_all
    rw [h2, hrow.cell?, ← hj, List.getElem?_map]
  · intro u hu
    obtain ⟨z, _, rfl⟩ := List.mem_map.1 hu
    exact z.2
  · intro v' w1 hown2 hg hnil
    have ho' : OwnK K enc w1 base e v' r := by
      unfold OwnK
      rw [← hr, List.length_append, List.flatMap_append, List.map_append]
      simpa using hown2
    obtain ⟨p, cap, rfl⟩ := ho'.slice
    exact h p cap w1 ho' (((Below.refl base w).alloc hbase _).trans ((Below.refl base _).grown hg (by simp; omega) (fun k hk => (hown.lt k hk).1))) hg
end
/-- STORE of a whole struct into the head of a block -/
theorem store_head {P : Program} {ops : Array Oper} {rest : List Oper} {o : Oper} {a : Act} {Q : Exit → Act → World → Prop} {w : World} {ty t : TypeId} {l' : List OC} (T : AggT P ty l'.length) (x y : Operand) (hgd : o.guard = none) (ho : o.op = .store ty x y) (b : Nat) (hx : a.eval x = .pointer (some ⟨b, 0, none⟩))
    {C : Array Value} (hC : C = (l'.map oV).toArray) (hy : a.eval y = .agg C) (cur : Array Value) (h : w.heap[b]? = some (.cells cur t (0, 0))) (hl : l'.length ≤ cur.size)
    (hk : ∀ w', w'.heap[b]? = some (.cells (l'.map oV ++ cur.toList.drop l'.length).toArray t (0, 0)) → w.grownBy w' (some b) → wpList P ops Q rest (a.put o.dst undef) w') : wpList P ops Q (o :: rest) a w := by
  subst hC
  have hs := run_storeCells_at P b 0 t (l'.map oV) 0 cur w h (by simpa using hl) (fun v hv => by obtain ⟨y, _, rfl⟩ := List.mem_map.1 hv; exact y.2)
  simp only [Nat.add_zero, List.take_zero, List.nil_append, Nat.zero_add, List.length_map] at hs
  have hr : (storeVar ty ⟨b, 0, none⟩ (.agg (l'.map oV).toArray)).run P w = .ok () (w.setRow b (l'.map oV ++ cur.toList.drop l'.length).toArray) := by
    simp [storeVar, Value.cells, Sem.run_bind, T.size]
    exact hs
  refine wpList_plain hgd fun K hK => ?_
  unfold Oper.wp execOp
  simp only [ho, hx, hy, Instr.storeAt, Instr.sureAddr, Sem.run_bind, Sem.run_pure, Result.andThen_ok, hr]
  exact hK _ _ (hk _ (setRow_heap w b _ _ t (0, 0) h) (setRow_grown w b _))
end Go.Proofs.YtgflelodpcgmbaaGreatDoor
/- univocalref25.cell. -/
namespace Go.Proofs.YtgflelodpcgmbaaGreatDoor
open Go Go.RowKit Mem
set_option maxRecDepth 100000

def ou (n : Int) : OC := ⟨.int .u8 n, rfl⟩
set_option maxHeartbeats 16000000 in
theorem rCell (w : World) (k n : Nat) (hk : k < 256) (hn : 1 ≤ n ∧ n ≤ 4) : Calls Tryz.prog 43 #[.int .i64 k, .int .i64 n] w fun e w' => e = .returned (.agg (ceA (mkCell k n))) ∧ Below w.heap.size w w' := by
  have d1 : (k : Int).tdiv 8 = ((k / 8 : Nat) : Int) := by rw [Int.tdiv_eq_ediv_of_nonneg (by omega)]; omega
  have d1' : (k : Int) / 8 = ((k / 8 : Nat) : Int) := by omega
  have d2 : ((k / 8 : Nat) : Int).tmod (n : Int) = ((k / 8 % n : Nat) : Int) := by rw [Int.tmod_eq_emod_of_nonneg (by omega)]; omega
  have d2' : ((k / 8 : Nat) : Int) % (n : Int) = ((k / 8 % n : Nat) : Int) := by omega
  have hn0 : ¬ (n : Int) = 0 := by omega
  have hn1 : (n : Int) ≠ 0 := hn0
  obtain ⟨r, hr8, hr⟩ : ∃ r, r < 8 ∧ k % 8 = r := ⟨k % 8, Nat.mod_lt _ (by omega), rfl⟩
  have hmk : Hid (mkCell k n = ⟨((k / 8 % n : Nat) : Int), mkAct r, mkB r⟩) := Lib.hid (by unfold mkCell; rw [hr])
  have d3 : (k : Int).tmod 8 = (r : Int) := by rw [Int.tmod_eq_emod_of_nonneg (by omega)]; omega
  have d4 : (k : Int) % 8 = (r : Int) := by omega
  generalize hq1 : k / 8 = q1 at *
  generalize hq2 : q1 % n = q2 at *
  clear hr hq1 hq2
  go_enter Tryz.func43, Tryz.ntmps43
  go_upto_region 1 with (fail)
  obtain ⟨W, hW, hB, hs, r0⟩ : ∃ W, (w.alloc (.cells #[.int .i64 0, .int .i64 0, .int .u8 0] 75)) = W ∧ Below w.heap.size w W ∧ w.heap.size + 1 ≤ W.heap.size ∧ Row oV W w.heap.size 75 [oi 0, oi 0, ou 0] :=
    ⟨_, rfl, below_al (Below.refl _ _) (Nat.le_refl _) _, by simp, Row.new _ _ rfl⟩
  rw [hW]
  clear hW
  have hz : Row oV (W.alloc (.cells #[.int .i64 0, .int .i64 0, .int .u8 0] 75)) W.heap.size 75 [oi 0, oi 0, ou 0] := Row.new _ _ rfl
  go_upto_region 2 with (((with_reducible refine store_agg (f := oV) (l := [oi 0, oi 0, ou 0]) (l' := [oi q2, oi 0, ou 0]) (t := 75) (C := #[.int .i64 q2, .int .i64 0, .int .u8 0]) aggCe (.tmp 5) (.tmp 10) ?_ ?_ W.heap.size ?_ ?_ ?_ hz ?_ oV_one ?_); rfl; rfl; rfl; rfl; rfl; rfl; (intro W1 hs1 hG1 hz1)))
  have hb1 := below_row (Below.refl W.heap.size W) hG1
  replace r0 := r0.below hb1 r0.lt
  replace hB := hB.trans (hb1.mono hB.size)
  generalize hcb : W.heap.size = cb at *
  have hcb' : w.heap.size + 1 ≤ cb := hs
  clear hs hz hG1 hz1 hb1 hcb W d1 d1' d2 d2' hn0 hn1
  have f1 := hs1.frozen 1
  have f2 := hs1.frozen 2
  have hl := hs1.lt
  have hc1 : W1.cell? ⟨cb, 1, none⟩ = some (.int .i64 0) := by rw [hs1.cell?]; rfl
  have hc2 : W1.cell? ⟨cb, 2, none⟩ = some (.int .u8 0) := by rw [hs1.cell?]; rfl
  rcases (by omega : r = 0 ∨ r = 1 ∨ r = 2 ∨ r = 3 ∨ r = 4 ∨ r = 5 ∨ r = 6 ∨ r = 7) with rfl | rfl | rfl | rfl | rfl | rfl | rfl | rfl
  · have hrow : Row oV W1 cb 75 [oi q2, oi 0, ou 0] := hs1
    have hr0 : Row oV W1 w.heap.size 75 [oi 0, oi 0, ou 0] := r0
    have hbl : Below w.heap.size w W1 := hB
    go_wp2_with (first
      | ((with_reducible refine load_agg (f := oV) (l := [oi q2, oi 0, ou 0]) (C := #[.int .i64 q2, .int .i64 0, .int .u8 0]) aggCe (.tmp 5) ?_ ?_ cb 0 ?_ hrow.at rfl ?_); rfl; rfl; rfl)
      | ((with_reducible refine store_agg (f := oV) (l := [oi 0, oi 0, ou 0]) (l' := [oi q2, oi 0, ou 0]) (t := 75) (C := #[.int .i64 q2, .int .i64 0, .int .u8 0]) aggCe (.tmp 4) (.tmp 28) ?_ ?_ w.heap.size ?_ ?_ ?_ hr0 ?_ oV_one ?_); rfl; rfl; rfl; rfl; rfl; rfl; (intro W6 hs6 hG6 hz6)))
    refine bodyPost_ret (results_agg (f := oV) (l := [oi q2, oi 0, ou 0]) rfl _ aggCe w.heap.size 0 rfl hs6.at) rfl ?_
    exact ⟨by rw [hmk.out]; rfl, hbl.grown hG6 hbl.size (fun j e => by cases e; omega)⟩
  · have hrow : Row oV W1 cb 75 [oi q2, oi 0, ou 0] := hs1
    have hr0 : Row oV W1 w.heap.size 75 [oi 0, oi 0, ou 0] := r0
    have hbl : Below w.heap.size w W1 := hB
    go_wp2_with (first
      | ((with_reducible refine load_agg (f := oV) (l := [oi q2, oi 0, ou 0]) (C := #[.int .i64 q2, .int .i64 0, .int .u8 0]) aggCe (.tmp 5) ?_ ?_ cb 0 ?_ hrow.at rfl ?_); rfl; rfl; rfl)
      | ((with_reducible refine store_agg (f := oV) (l := [oi 0, oi 0, ou 0]) (l' := [oi q2, oi 0, ou 0]) (t := 75) (C := #[.int .i64 q2, .int .i64 0, .int .u8 0]) aggCe (.tmp 4) (.tmp 28) ?_ ?_ w.heap.size ?_ ?_ ?_ hr0 ?_ oV_one ?_); rfl; rfl; rfl; rfl; rfl; rfl; (intro W6 hs6 hG6 hz6)))
    refine bodyPost_ret (results_agg (f := oV) (l := [oi q2, oi 0, ou 0]) rfl _ aggCe w.heap.size 0 rfl hs6.at) rfl ?_
    exact ⟨by rw [hmk.out]; rfl, hbl.grown hG6 hbl.size (fun j e => by cases e; omega)⟩
  · have hrow : Row oV W1 cb 75 [oi q2, oi 0, ou 0] := hs1
    have hr0 : Row oV W1 w.heap.size 75 [oi 0, oi 0, ou 0] := r0
    have hbl : Below w.heap.size w W1 := hB
    go_wp2_with (first
      | ((with_reducible refine load_agg (f := oV) (l := [oi q2, oi 0, ou 0]) (C := #[.int .i64 q2, .int .i64 0, .int .u8 0]) aggCe (.tmp 5) ?_ ?_ cb 0 ?_ hrow.at rfl ?_); rfl; rfl; rfl)
      | ((with_reducible refine store_agg (f := oV) (l := [oi 0, oi 0, ou 0]) (l' := [oi q2, oi 0, ou 0]) (t := 75) (C := #[.int .i64 q2, .int .i64 0, .int .u8 0]) aggCe (.tmp 4) (.tmp 28) ?_ ?_ w.heap.size ?_ ?_ ?_ hr0 ?_ oV_one ?_); rfl; rfl; rfl; rfl; rfl; rfl; (intro W6 hs6 hG6 hz6)))
    refine bodyPost_ret (results_agg (f := oV) (l := [oi q2, oi 0, ou 0]) rfl _ aggCe w.heap.size 0 rfl hs6.at) rfl ?_
    exact ⟨by rw [hmk.out]; rfl, hbl.grown hG6 hbl.size (fun j e => by cases e; omega)⟩
  · have hrow : Row oV (W1.setCell ⟨cb, 1, none⟩ (.int .i64 1)) cb 75 [oi q2, oi 1, ou 0] := (hs1.set 1 (oi 1))
    have hr0 : Row oV (W1.setCell ⟨cb, 1, none⟩ (.int .i64 1)) w.heap.size 75 [oi 0, oi 0, ou 0] := (r0.set_other (b' := cb) (by omega) 1 (.int .i64 1))
    have hbl : Below w.heap.size w (W1.setCell ⟨cb, 1, none⟩ (.int .i64 1)) := (below_set hB (b := cb) 1 (by omega) (.int .i64 1))
    go_wp2_with (first
      | ((with_reducible refine load_agg (f := oV) (l := [oi q2, oi 1, ou 0]) (C := #[.int .i64 q2, .int .i64 1, .int .u8 0]) aggCe (.tmp 5) ?_ ?_ cb 0 ?_ hrow.at rfl ?_); rfl; rfl; rfl)
      | ((with_reducible refine store_agg (f := oV) (l := [oi 0, oi 0, ou 0]) (l' := [oi q2, oi 1, ou 0]) (t := 75) (C := #[.int .i64 q2, .int .i64 1, .int .u8 0]) aggCe (.tmp 4) (.tmp 28) ?_ ?_ w.heap.size ?_ ?_ ?_ hr0 ?_ oV_one ?_); rfl; rfl; rfl; rfl; rfl; rfl; (intro W6 hs6 hG6 hz6)))
    refine bodyPost_ret (results_agg (f := oV) (l := [oi q2, oi 1, ou 0]) rfl _ aggCe w.heap.size 0 rfl hs6.at) rfl ?_
    exact ⟨by rw [hmk.out]; rfl, hbl.grown hG6 hbl.size (fun j e => by cases e; omega)⟩
  · have hrow : Row oV ((W1.setCell ⟨cb, 1, none⟩ (.int .i64 2)).setCell ⟨cb, 2, none⟩ (.int .u8 97)) cb 75 [oi q2, oi 2, ou 97] := ((hs1.set 1 (oi 2)).set 2 (ou 97))
    have hr0 : Row oV ((W1.setCell ⟨cb, 1, none⟩ (.int .i64 2)).setCell ⟨cb, 2, none⟩ (.int .u8 97)) w.heap.size 75 [oi 0, oi 0, ou 0] := ((r0.set_other (b' := cb) (by omega) 1 (.int .i64 2)).set_other (b' := cb) (by omega) 2 (.int .u8 97))
    have hbl : Below w.heap.size w ((W1.setCell ⟨cb, 1, none⟩ (.int .i64 2)).setCell ⟨cb, 2, none⟩ (.int .u8 97)) := (below_set (below_set hB (b := cb) 1 (by omega) (.int .i64 2)) (b := cb) 2 (by omega) (.int .u8 97))
    go_wp2_with (first
      | ((with_reducible refine load_agg (f := oV) (l := [oi q2, oi 2, ou 97]) (C := #[.int .i64 q2, .int .i64 2, .int .u8 97]) aggCe (.tmp 5) ?_ ?_ cb 0 ?_ hrow.at rfl ?_); rfl; rfl; rfl)
      | ((with_reducible refine store_agg (f := oV) (l := [oi 0, oi 0, ou 0]) (l' := [oi q2, oi 2, ou 97]) (t := 75) (C := #[.int .i64 q2, .int .i64 2, .int .u8 97]) aggCe (.tmp 4) (.tmp 28) ?_ ?_ w.heap.size ?_ ?_ ?_ hr0 ?_ oV_one ?_); rfl; rfl; rfl; rfl; rfl; rfl; (intro W6 hs6 hG6 hz6)))
    refine bodyPost_ret (results_agg (f := oV) (l := [oi q2, oi 2, ou 97]) rfl _ aggCe w.heap.size 0 rfl hs6.at) rfl ?_
    exact ⟨by rw [hmk.out]; rfl, hbl.grown hG6 hbl.size (fun j e => by cases e; omega)⟩
  · have hrow : Row oV ((W1.setCell ⟨cb, 1, none⟩ (.int .i64 2)).setCell ⟨cb, 2, none⟩ (.int .u8 98)) cb 75 [oi q2, oi 2, ou 98] := ((hs1.set 1 (oi 2)).set 2 (ou 98))
    have hr0 : Row oV ((W1.setCell ⟨cb, 1, none⟩ (.int .i64 2)).setCell ⟨cb, 2, none⟩ (.int .u8 98)) w.heap.size 75 [oi 0, oi 0, ou 0] := ((r0.set_other (b' := cb) (by omega) 1 (.int .i64 2)).set_other (b' := cb) (by omega) 2 (.int .u8 98))
    have hbl : Below w.heap.size w ((W1.setCell ⟨cb, 1, none⟩ (.int .i64 2)).setCell ⟨cb, 2, none⟩ (.int .u8 98)) := (below_set (below_set hB (b := cb) 1 (by omega) (.int .i64 2)) (b := cb) 2 (by omega) (.int .u8 98))
    go_wp2_with (first
      | ((with_reducible refine load_agg (f := oV) (l := [oi q2, oi 2, ou 98]) (C := #[.int .i64 q2, .int .i64 2, .int .u8 98]) aggCe (.tmp 5) ?_ ?_ cb 0 ?_ hrow.at rfl ?_); rfl; rfl; rfl)
      | ((with_reducible refine store_agg (f := oV) (l := [oi 0, oi 0, ou 0]) (l' := [oi q2, oi 2, ou 98]) (t := 75) (C := #[.int .i64 q2, .int .i64 2, .int .u8 98]) aggCe (.tmp 4) (.tmp 28) ?_ ?_ w.heap.size ?_ ?_ ?_ hr0 ?_ oV_one ?_); rfl; rfl; rfl; rfl; rfl; rfl; (intro W6 hs6 hG6 hz6)))
    refine bodyPost_ret (results_agg (f := oV) (l := [oi q2, oi 2, ou 98]) rfl _ aggCe w.heap.size 0 rfl hs6.at) rfl ?_
    exact ⟨by rw [hmk.out]; rfl, hbl.grown hG6 hbl.size (fun j e => by cases e; omega)⟩
  · have hrow : Row oV (W1.setCell ⟨cb, 1, none⟩ (.int .i64 3)) cb 75 [oi q2, oi 3, ou 0] := (hs1.set 1 (oi 3))
    have hr0 : Row oV (W1.setCell ⟨cb, 1, none⟩ (.int .i64 3)) w.heap.size 75 [oi 0, oi 0, ou 0] := (r0.set_other (b' := cb) (by omega) 1 (.int .i64 3))
    have hbl : Below w.heap.size w (W1.setCell ⟨cb, 1, none⟩ (.int .i64 3)) := (below_set hB (b := cb) 1 (by omega) (.int .i64 3))
    go_wp2_with (first
      | ((with_reducible refine load_agg (f := oV) (l := [oi q2, oi 3, ou 0]) (C := #[.int .i64 q2, .int .i64 3, .int .u8 0]) aggCe (.tmp 5) ?_ ?_ cb 0 ?_ hrow.at rfl ?_); rfl; rfl; rfl)
      | ((with_reducible refine store_agg (f := oV) (l := [oi 0, oi 0, ou 0]) (l' := [oi q2, oi 3, ou 0]) (t := 75) (C := #[.int .i64 q2, .int .i64 3, .int .u8 0]) aggCe (.tmp 4) (.tmp 28) ?_ ?_ w.heap.size ?_ ?_ ?_ hr0 ?_ oV_one ?_); rfl; rfl; rfl; rfl; rfl; rfl; (intro W6 hs6 hG6 hz6)))
    refine bodyPost_ret (results_agg (f := oV) (l := [oi q2, oi 3, ou 0]) rfl _ aggCe w.heap.size 0 rfl hs6.at) rfl ?_
    exact ⟨by rw [hmk.out]; rfl, hbl.grown hG6 hbl.size (fun j e => by cases e; omega)⟩
  · have hrow : Row oV (W1.setCell ⟨cb, 1, none⟩ (.int .i64 3)) cb 75 [oi q2, oi 3, ou 0] := (hs1.set 1 (oi 3))
    have hr0 : Row oV (W1.setCell ⟨cb, 1, none⟩ (.int .i64 3)) w.heap.size 75 [oi 0, oi 0, ou 0] := (r0.set_other (b' := cb) (by omega) 1 (.int .i64 3))
    have hbl : Below w.heap.size w (W1.setCell ⟨cb, 1, none⟩ (.int .i64 3)) := (below_set hB (b := cb) 1 (by omega) (.int .i64 3))
    go_wp2_with (first
      | ((with_reducible refine load_agg (f := oV) (l := [oi q2, oi 3, ou 0]) (C := #[.int .i64 q2, .int .i64 3, .int .u8 0]) aggCe (.tmp 5) ?_ ?_ cb 0 ?_ hrow.at rfl ?_); rfl; rfl; rfl)
      | ((with_reducible refine store_agg (f := oV) (l := [oi 0, oi 0, ou 0]) (l' := [oi q2, oi 3, ou 0]) (t := 75) (C := #[.int .i64 q2, .int .i64 3, .int .u8 0]) aggCe (.tmp 4) (.tmp 28) ?_ ?_ w.heap.size ?_ ?_ ?_ hr0 ?_ oV_one ?_); rfl; rfl; rfl; rfl; rfl; rfl; (intro W6 hs6 hG6 hz6)))
    refine bodyPost_ret (results_agg (f := oV) (l := [oi q2, oi 3, ou 0]) rfl _ aggCe w.heap.size 0 rfl hs6.at) rfl ?_
    exact ⟨by rw [hmk.out]; rfl, hbl.grown hG6 hbl.size (fun j e => by cases e; omega)⟩
end Go.Proofs.YtgflelodpcgmbaaGreatDoor
/- univocalref01.Cells of no class: one class of all bytes. -/
namespace Go.Proofs.YtgflelodpcgmbaaGreatDoor
open Go Go.RowKit Mem
set_option maxRecDepth 100000

theorem OwnK.cur {α : Type} {K : Nat} {enc : α → List OC} {w : World} {base g c : Nat} {e : TypeId} {x : α} (hk : ∀ x, (enc x).length = K) (h : OwnK K enc w base e (.slice (some ⟨g, 0, none⟩) 1 c) [x]) :
    base ≤ g ∧ ∃ cur, w.heap[g]? = some (.cells cur e (0, 0)) ∧ K ≤ cur.size ∧ ∀ w' y, w'.heap[g]? = some (.cells ((enc y).map oV ++ cur.toList.drop (enc y).length).toArray e (0, 0)) → OwnK K enc w' base e (.slice (some ⟨g, 0, none⟩) 1 c) [y] := by
  rcases h.2 with ⟨h0, _⟩ | ⟨g2, cap, cur, he, hbg, hc, hn, hm, hs, ht⟩
  · cases h0
  · cases he
    have hn' : 1 ≤ c := hn
    have hK : K ≤ cur.size := by rw [hs]; exact Nat.le_mul_of_pos_left K hn'
    refine ⟨hbg, cur, hc, hK, fun w' y hw => ⟨by simp [hk], .inr ⟨g, c, _, rfl, hbg, hw, hn, hm, ?_, ?_⟩⟩⟩
    · simp [hk]
      omega
    · simp [hk]
theorem OwnK.head {α : Type} {K : Nat} {enc : α → List OC} {w : World} {base g c : Nat} {e : TypeId} {x : α} (hk : ∀ x, (enc x).length = K) (h : OwnK K enc w base e (.slice (some ⟨g, 0, none⟩) 1 c) [x]) : At oV w g 0 (enc x) := by
  obtain ⟨b, o, he, hat, _⟩ := (h.rd hk).elem 0 (by simp)
  cases he
  simpa using hat
theorem OwnK.ptr {α : Type} {K : Nat} {enc : α → List OC} {w : World} {base n c : Nat} {p : Option Addr} {e : TypeId} {l : List α} (h : OwnK K enc w base e (.slice p n c) l) (hl : l ≠ []) : ∃ g, p = some ⟨g, 0, none⟩ := by
  rcases h.2 with ⟨_, h0⟩ | ⟨g, cap, cur, he, _⟩
  · exact absurd (List.length_eq_zero_iff.1 h0) hl
  · injection he with he; exact ⟨g, he⟩
theorem own_ptr {α : Type} {f : α → Value} {w : World} {base n c : Nat} {p : Option Addr} {e : TypeId} {l : List α} (h : Mem.Own f w base e (.slice p n c) l) (hl : l ≠ []) : ∃ g, p = some ⟨g, 0, none⟩ := by
  rcases h.2 with ⟨_, h0⟩ | ⟨g, cap, cur, he, _⟩
  · exact absurd (List.length_eq_zero_iff.1 h0) hl
  · injection he with he; exact ⟨g, he⟩
theorem rAlike0 (w : World) (a b : Value) : Calls Tryz.prog 76 #[.slice none 0 0, a, b] w fun e w' => e = .returned (.bool true) ∧ w' = w := by
  go_enter Tryz.func76, Tryz.ntmps76
  go_wp2_with fail
  refine wp_loop_rounds 1 ?_
  refine rounds_step (n := 0) ?_
  go_wp2
  go_ret
  exact ⟨rfl, rfl⟩
theorem eltCl : EltK Tryz.prog 22 80 4 32 := EltK.mk' (z := .agg #[.int .u64 0, .int .u64 0, .int .u64 0, .int .u64 0]) Tryz.underlying22 (by kernel_rfl) rfl
theorem clL_len (c : Cl) : (clL c).length = 4 := rfl

set_option maxHeartbeats 16000000 in
theorem rCells0 (w : World) : Calls Tryz.prog 46 #[.slice none 0 0] w fun e w' => ∃ g c, e = .returned (.slice (some ⟨g, 0, none⟩) 1 c) ∧ OwnK 4 clL w' w.heap.size 80 (.slice (some ⟨g, 0, none⟩) 1 c) [clAll] ∧ Below w.heap.size w w' := by
  go_enter Tryz.func46, Tryz.ntmps46
  go_upto_region 4 with (fail)
  obtain ⟨W, hW, hB, hs, o0, o1⟩ : ∃ W, ((w.alloc (.cells #[] 80)).alloc (.cells #[] 5)) = W ∧ Below w.heap.size w W ∧ w.heap.size + 2 ≤ W.heap.size ∧ OwnK 4 clL W w.heap.size 80 (.slice (some ⟨w.heap.size, 0, none⟩) 0 0) ([] : List Cl) ∧ Mem.Own u8V W w.heap.size 5 (.slice (some ⟨w.heap.size + 1, 0, none⟩) 0 0) ([] : List UInt8) := by
    refine ⟨_, rfl, below_al (below_al (Below.refl _ _) (Nat.le_refl _) _) (Nat.le_refl _) _, by simp, (OwnK.new0 w w.heap.size 80 (Nat.le_refl _)).below' (below_al (Below.refl _ _) (Nat.le_refl _) _), ?_⟩
    have h := Own.new (f := u8V) (l := []) (w.alloc (.cells #[] 80)) (.cells #[] 5) (base := w.heap.size) (e := 5) (by simp) rfl (by simp)
    simpa using h
  rw [hW]
  clear hW
  obtain ⟨p, HP⟩ : ∃ p : Nat → Bool, Hid (p = fun _ => true) := ⟨_, Lib.hid rfl⟩
  have HF : Hid (fillC p 256 = clAll) := Lib.hid (by rw [HP.out]; decide +kernel)
  go_loopw [3, 4, 5, 6] (fun s3 s4 s5 s6 wr => ∃ (k : Nat), k ≤ 256 ∧ s5 = .int .i64 k ∧ ((k = 0 ∧ s3 = .slice (some ⟨w.heap.size, 0, none⟩) 0 0 ∧ s4 = .slice (some ⟨w.heap.size + 1, 0, none⟩) 0 0 ∧ wr = W) ∨
      (1 ≤ k ∧ ∃ g c h d, s3 = .slice (some ⟨g, 0, none⟩) 1 c ∧ s4 = .slice (some ⟨h, 0, none⟩) 1 d ∧ OwnK 4 clL wr w.heap.size 80 (.slice (some ⟨g, 0, none⟩) 1 c) [fillC p k] ∧ Mem.Own u8V wr w.heap.size 5 (.slice (some ⟨h, 0, none⟩) 1 d) [0] ∧ Below w.heap.size w wr))) (fun _ _ i _ _ => 256 - (intOf i).toNat)
  case atStart => exact ⟨0, by omega, rfl, .inl ⟨rfl, rfl, rfl, rfl⟩⟩
  case round =>
    obtain ⟨k, hk, rfl, ⟨rfl, rfl, rfl, rfl⟩ | ⟨h1, g, c, h, d, rfl, rfl, hO, hL, hb⟩⟩ := hrel
    · rw [show ((0 : Nat) : Int) = 0 from rfl]
      have hbk : (UInt8.ofNat 0).toNat = 0 := by simp
      have hFk : Hid (zeroC.add 0 = fillC p (0 + 1)) := Lib.hid (by rw [fillC_succ, if_pos (by rw [HP.out])]; rfl)
      have hFk : Hid (Cl.add zeroC 0 = fillC p (0 + 1)) := hFk
      go_wp2_with fail
      refine wp_loop_rounds 1 ?_
      refine rounds_step (n := 0) ?_
      go_wp2_with (at_builtin; (with_reducible refine append_k eltCl (by decide) clL_len (.tmp 34) (.tmp 36) ?_ ?_ ?_ o0 zeroC #[.int .u64 0, .int .u64 0, .int .u64 0, .int .u64 0] ?_ 80 ?_ ?_ ?_ ?_ [zeroC] ?_ ?_); rfl; rfl; rfl; rfl; rfl; (simp); (simp); (omega); rfl; (intro p3 c wA hO hBA hGA); (refine Pause.back ?_))
      obtain ⟨g, rfl⟩ := hO.ptr (by simp)
      have hL := (o1.alloc (.cells #[.int .u64 0, .int .u64 0, .int .u64 0, .int .u64 0] 80)).grown' hGA (fun j hj e => by cases hj; injection e with e; simp at e)
      have hb := hB.trans hBA
      clear o0 o1 hGA hBA hB
      refine Pause.out ?_
      go_wp2_with (at_builtin; (with_reducible refine append_one elt8 (.tmp 38) (.tmp 41) ?_ ?_ u8V_one ?_ hL 0 _ ?_ _ ?_ ?_ ?_ ?_ [0] ?_ ?_); rfl; rfl; rfl; rfl; rfl; (simp); (simp); (exact hb.size); rfl; (intro p4 d wB hL2 hBB hGB); (refine Pause.back ?_))
      obtain ⟨h, rfl⟩ := own_ptr hL2 (by simp)
      replace hO := (hO.below' (below_al (Below.refl _ _) (Nat.le_refl _) (.cells #[.int .u8 0] 5))).grown hGB (fun j hj => (hO.type hL (by decide)) j hj)
      replace hL := hL2
      replace hb := hb.trans hBB
      clear hL2 hGB hBB
      refine Pause.out ?_
      have hat := hO.head clL_len
      go_wp2_with ((with_reducible refine load_agg (f := oV) (l := clL zeroC) (C := clA zeroC) aggCl (.tmp 47) ?_ ?_ g 0 ?_ hat rfl ?_); rfl; rfl; rfl)
      have hc := rWith wB zeroC (UInt8.ofNat 0)
      rw [hbk] at hc
      refine hc.mono ?_
      clear hc hat
      rintro e w5 ⟨rfl, hb5⟩
      replace hO := hO.below' hb5
      replace hL := hL.below' hb5
      replace hb := hb.trans (hb5.mono hb.size)
      clear hb5
      obtain ⟨hbg, cur, hcur, hKc, hset⟩ := hO.cur clL_len
      replace hset := Lib.hid hset
      rw [hFk.out]
      go_wp2_with (((with_reducible refine store_head (l' := clL (fillC p (0 + 1))) (t := 80) (C := clA (fillC p (0 + 1))) aggCl (.tmp 52) (.tmp 51) ?_ ?_ g ?_ ?_ ?_ cur hcur ?_ ?_); rfl; rfl; rfl; rfl; rfl; (exact hKc); (intro w6 hs6 hG6)))
      go_roundw
      case rel => exact ⟨0 + 1, by omega, by go_num, .inr ⟨by omega, g, c, h, d, rfl, rfl, hset.out _ _ hs6, hL.grown' hG6 (fun j hj => by have := hO.type hL (by decide) g rfl; rw [hj] at this; intro e; exact this e.symm), hb.grown hG6 hb.size (fun j e => by cases e; exact hbg)⟩⟩
      case measure => simp [intOf] <;> omega
    · by_cases hlt : k < 256
      · have hq : (k : Int) < 256 := by omega
        have hbk : (UInt8.ofNat k).toNat = k := by simp; omega
        have hw8 : IntKind.u8.wrap (k : Int) = (k : Int) := by rw [IntKind.wrap_u8]; omega
        have hFk : Hid ((fillC p k).add k = fillC p (k + 1)) := Lib.hid (by rw [fillC_succ, if_pos (by rw [HP.out])])
        have hat0 : wr.cell? ⟨h, 0, none⟩ = some (.int .u8 0) := (hL.at h rfl) 0 (by simp)
        go_wp2_with fail
        refine wp_loop_rounds 1 ?_
        refine rounds_step (n := 0) ?_
        go_wp2_with fail
        refine (rAlike0 _ _ _).mono ?_
        rintro e w4 ⟨rfl, rfl⟩
        clear hat0
        have hat := hO.head clL_len
        go_wp2_with ((with_reducible refine load_agg (f := oV) (l := clL (fillC p k)) (C := clA (fillC p k)) aggCl (.tmp 47) ?_ ?_ g 0 ?_ hat rfl ?_); rfl; rfl; rfl)
        have hc := rWith w4 (fillC p k) (UInt8.ofNat k)
        rw [hbk] at hc
        refine hc.mono ?_
        clear hc hat
        rintro e w5 ⟨rfl, hb5⟩
        replace hO := hO.below' hb5
        replace hL := hL.below' hb5
        replace hb := hb.trans (hb5.mono hb.size)
        clear hb5
        obtain ⟨hbg, cur, hcur, hKc, hset⟩ := hO.cur clL_len
        replace hset := Lib.hid hset
        rw [hFk.out]
        go_wp2_with (((with_reducible refine store_head (l' := clL (fillC p (k + 1))) (t := 80) (C := clA (fillC p (k + 1))) aggCl (.tmp 52) (.tmp 51) ?_ ?_ g ?_ ?_ ?_ cur hcur ?_ ?_); rfl; rfl; rfl; rfl; rfl; (exact hKc); (intro w6 hs6 hG6)))
        go_roundw
        case rel => exact ⟨k + 1, by omega, by go_num, .inr ⟨by omega, g, c, h, d, rfl, rfl, hset.out _ _ hs6, hL.grown' hG6 (fun j hj => by have := hO.type hL (by decide) g rfl; rw [hj] at this; intro e; exact this e.symm), hb.grown hG6 hb.size (fun j e => by cases e; exact hbg)⟩⟩
        case measure => simp [intOf] <;> omega
      · obtain rfl : k = 256 := by omega
        rw [HF.out] at hO
        go_wp2
        go_ret
        exact ⟨g, c, rfl, hO, hb⟩
end Go.Proofs.YtgflelodpcgmbaaGreatDoor
/- univocalref25.Passing and Refusing. -/
namespace Go.Proofs.YtgflelodpcgmbaaGreatDoor
open Go Go.RowKit Mem
set_option maxRecDepth 100000

theorem RdK.grown {α : Type} {K : Nat} {enc : α → List OC} {w w' : World} {g o n c : Nat} {l : List α} (h : RdK K enc w (.slice (some ⟨g, o, none⟩) n c) l) {row : Option Nat} (hg : w.grownBy w' row) (hne : some g ≠ row) : RdK K enc w' (.slice (some ⟨g, o, none⟩) n c) l := by
  rcases h with hn | ⟨b, o2, cap, he, hc, ha, hlt⟩
  · exact .inl hn
  · injection he with e1 e2 e3
    injection e1 with e1
    injection e1 with e1 e4
    subst e1; subst e2; subst e3; subst e4
    exact .inr ⟨_, _, _, rfl, hc, fun i hi => (ha i hi).grown hg hlt hne, Nat.lt_of_lt_of_le hlt hg.size⟩

set_option maxHeartbeats 8000000 in
theorem rPassing (w : World) : Calls Tryz.prog 20 #[] w fun e w' => ∃ pc pr pe kc, e = .returned (.agg #[.slice pc passN.cls.length kc, .slice pr passN.rows.length 1, .slice pe passN.ends.length 1]) ∧ NzAt w' (.agg #[.slice pc passN.cls.length kc, .slice pr passN.rows.length 1, .slice pe passN.ends.length 1]) passN ∧ Below w.heap.size w w' := by
  go_enter Tryz.func20, Tryz.ntmps20
  go_upto_region 1 with (fail)
  obtain ⟨W, hW, hB, hs, r0⟩ : ∃ W, (w.alloc (.cells #[.slice none 0 0, .slice none 0 0, .slice none 0 0] 26)) = W ∧ Below w.heap.size w W ∧ w.heap.size + 1 ≤ W.heap.size ∧ Row oV W w.heap.size 26 [on, on, on] :=
    ⟨_, rfl, below_al (Below.refl _ _) (Nat.le_refl _) _, by simp, Row.new _ _ rfl⟩
  rw [hW]
  clear hW
  go_wp2_with fail
  refine (rCells0 W).mono ?_
  rintro e W1 ⟨g, c, rfl, hO, hb⟩
  replace r0 := r0.below hb r0.lt
  replace hB := hB.trans (hb.mono hB.size)
  have hR := hO.rd clL_len
  have hgb := (hO.lt g rfl).1
  have hl := hb.size
  clear hO hb
  obtain ⟨W2, hW, hB2, hl2, r1, q1, q2, q3⟩ : ∃ X, (((W1.alloc (.cells #[.int .i64 0, .int .i64 0, .int .u8 0] 75)).alloc (.cells #[.slice (some ⟨W1.heap.size, 0, none⟩) 1 1] 76)).alloc (.cells #[.bool true] 4)) = X ∧ Below W1.heap.size W1 X ∧ W1.heap.size + 3 ≤ X.heap.size ∧ Row oV X w.heap.size 26 [on, on, on] ∧ Row oV X W1.heap.size 75 [oi 0, oi 0, ou 0] ∧ Row oV X (W1.heap.size + 1) 76 [osl W1.heap.size 1 1] ∧ Row Value.bool X (W1.heap.size + 1 + 1) 4 [true] := by
    have hbb : Below W1.heap.size W1 (((W1.alloc (.cells #[.int .i64 0, .int .i64 0, .int .u8 0] 75)).alloc (.cells #[.slice (some ⟨W1.heap.size, 0, none⟩) 1 1] 76)).alloc (.cells #[.bool true] 4)) := below_al (below_al (below_al (Below.refl _ _) (Nat.le_refl _) _) (Nat.le_refl _) _) (Nat.le_refl _) _
    refine ⟨_, rfl, hbb, by simp, r0.below hbb r0.lt, ?_, ?_, ?_⟩
    all_goals repeat (first | (refine heap_new' _ _ _ ?_; (simp; done)) | (refine (Below.heap_alloc _ _ _ ?_).trans ?_; · (simp <;> omega)))
  replace hR := hR.below hB2
  replace hB := hB.trans (hB2.mono hB.size)
  have hlb : w.heap.size < W1.heap.size := by omega
  clear hB2 r0
  generalize hn1 : W1.heap.size = n1 at *
  go_wp2_with (((with_reducible refine store_agg (f := oV) (l := [on, on, on]) (l' := [osl g 1 c, osl (n1 + 1) 1 1, osl (n1 + 1 + 1) 1 1]) (t := 26) (C := #[.slice (some ⟨g, 0, none⟩) 1 c, .slice (some ⟨n1 + 1, 0, none⟩) 1 1, .slice (some ⟨n1 + 1 + 1, 0, none⟩) 1 1]) aggNorm (.tmp 0) (.tmp 6) ?_ ?_ w.heap.size ?_ ?_ ?_ r1 ?_ oV_one ?_); rfl; rfl; rfl; rfl; rfl; rfl; (intro Y hsY hGY hzY)))
  refine bodyPost_ret (v := .agg #[.slice (some ⟨g, 0, none⟩) 1 c, .slice (some ⟨n1 + 1, 0, none⟩) 1 1, .slice (some ⟨n1 + 1 + 1, 0, none⟩) 1 1]) (results_agg (f := oV) (l := [osl g 1 c, osl (n1 + 1) 1 1, osl (n1 + 1 + 1) 1 1]) rfl _ aggNorm w.heap.size 0 rfl hsY.at) rfl ?_
  have hne : ∀ b, w.heap.size < b → some b ≠ some w.heap.size := fun b hb e => by injection e with e; omega
  have y1 := q1.grown hGY (hne _ (by omega))
  have y2 := q2.grown hGY (hne _ (by omega))
  have y3 := q3.grown hGY (hne _ (by omega))
  have hR2 := hR.grown hGY (hne _ (by omega))
  refine ⟨some ⟨g, 0, none⟩, some ⟨n1 + 1, 0, none⟩, some ⟨n1 + 1 + 1, 0, none⟩, c, rfl, ⟨_, _, _, rfl, hR2, ?_, ?_⟩, ?_⟩
  · refine .inr ⟨n1 + 1, 0, 1, rfl, Nat.le_refl _, fun i hi => ?_, y2.lt⟩
    obtain rfl : i = 0 := by have : i < 1 := hi; omega
    exact ⟨.slice (some ⟨n1, 0, none⟩) 1 1, by rw [y2.cell?]; rfl, RdK.row (l := ([⟨0, 0, 0⟩] : List Ce)) y1 rfl (fun x _ => rfl)⟩
  · exact .inr ⟨n1 + 1 + 1, 0, 1, rfl, Nat.le_refl _, y3.at, y3.lt⟩
  · exact hB.grown hGY hB.size (fun k e => by cases e; exact Nat.le_refl _)
set_option maxHeartbeats 8000000 in
theorem rRefusing (w : World) : Calls Tryz.prog 21 #[] w fun e w' => ∃ pc pr pe kc, e = .returned (.agg #[.slice pc refuseN.cls.length kc, .slice pr refuseN.rows.length 1, .slice pe refuseN.ends.length 1]) ∧ NzAt w' (.agg #[.slice pc refuseN.cls.length kc, .slice pr refuseN.rows.length 1, .slice pe refuseN.ends.length 1]) refuseN ∧ Below w.heap.size w w' := by
  go_enter Tryz.func21, Tryz.ntmps21
  go_upto_region 1 with (fail)
  obtain ⟨W, hW, hB, hs, r0⟩ : ∃ W, (w.alloc (.cells #[.slice none 0 0, .slice none 0 0, .slice none 0 0] 26)) = W ∧ Below w.heap.size w W ∧ w.heap.size + 1 ≤ W.heap.size ∧ Row oV W w.heap.size 26 [on, on, on] :=
    ⟨_, rfl, below_al (Below.refl _ _) (Nat.le_refl _) _, by simp, Row.new _ _ rfl⟩
  rw [hW]
  clear hW
  go_wp2_with fail
  refine (rCells0 W).mono ?_
  rintro e W1 ⟨g, c, rfl, hO, hb⟩
  replace r0 := r0.below hb r0.lt
  replace hB := hB.trans (hb.mono hB.size)
  have hR := hO.rd clL_len
  have hgb := (hO.lt g rfl).1
  have hl := hb.size
  clear hO hb
  obtain ⟨W2, hW, hB2, hl2, r1, q1, q2, q3⟩ : ∃ X, (((W1.alloc (.cells #[.int .i64 0, .int .i64 3, .int .u8 0] 75)).alloc (.cells #[.slice (some ⟨W1.heap.size, 0, none⟩) 1 1] 76)).alloc (.cells #[.bool false] 4)) = X ∧ Below W1.heap.size W1 X ∧ W1.heap.size + 3 ≤ X.heap.size ∧ Row oV X w.heap.size 26 [on, on, on] ∧ Row oV X W1.heap.size 75 [oi 0, oi 3, ou 0] ∧ Row oV X (W1.heap.size + 1) 76 [osl W1.heap.size 1 1] ∧ Row Value.bool X (W1.heap.size + 1 + 1) 4 [false] := by
    have hbb : Below W1.heap.size W1 (((W1.alloc (.cells #[.int .i64 0, .int .i64 3, .int .u8 0] 75)).alloc (.cells #[.slice (some ⟨W1.heap.size, 0, none⟩) 1 1] 76)).alloc (.cells #[.bool false] 4)) := below_al (below_al (below_al (Below.refl _ _) (Nat.le_refl _) _) (Nat.le_refl _) _) (Nat.le_refl _) _
    refine ⟨_, rfl, hbb, by simp, r0.below hbb r0.lt, ?_, ?_, ?_⟩
    all_goals repeat (first | (refine heap_new' _ _ _ ?_; (simp; done)) | (refine (Below.heap_alloc _ _ _ ?_).trans ?_; · (simp <;> omega)))
  replace hR := hR.below hB2
  replace hB := hB.trans (hB2.mono hB.size)
  have hlb : w.heap.size < W1.heap.size := by omega
  clear hB2 r0
  generalize hn1 : W1.heap.size = n1 at *
  go_wp2_with (((with_reducible refine store_agg (f := oV) (l := [on, on, on]) (l' := [osl g 1 c, osl (n1 + 1) 1 1, osl (n1 + 1 + 1) 1 1]) (t := 26) (C := #[.slice (some ⟨g, 0, none⟩) 1 c, .slice (some ⟨n1 + 1, 0, none⟩) 1 1, .slice (some ⟨n1 + 1 + 1, 0, none⟩) 1 1]) aggNorm (.tmp 0) (.tmp 6) ?_ ?_ w.heap.size ?_ ?_ ?_ r1 ?_ oV_one ?_); rfl; rfl; rfl; rfl; rfl; rfl; (intro Y hsY hGY hzY)))
  refine bodyPost_ret (v := .agg #[.slice (some ⟨g, 0, none⟩) 1 c, .slice (some ⟨n1 + 1, 0, none⟩) 1 1, .slice (some ⟨n1 + 1 + 1, 0, none⟩) 1 1]) (results_agg (f := oV) (l := [osl g 1 c, osl (n1 + 1) 1 1, osl (n1 + 1 + 1) 1 1]) rfl _ aggNorm w.heap.size 0 rfl hsY.at) rfl ?_
  have hne : ∀ b, w.heap.size < b → some b ≠ some w.heap.size := fun b hb e => by injection e with e; omega
  have y1 := q1.grown hGY (hne _ (by omega))
  have y2 := q2.grown hGY (hne _ (by omega))
  have y3 := q3.grown hGY (hne _ (by omega))
  have hR2 := hR.grown hGY (hne _ (by omega))
  refine ⟨some ⟨g, 0, none⟩, some ⟨n1 + 1, 0, none⟩, some ⟨n1 + 1 + 1, 0, none⟩, c, rfl, ⟨_, _, _, rfl, hR2, ?_, ?_⟩, ?_⟩
  · refine .inr ⟨n1 + 1, 0, 1, rfl, Nat.le_refl _, fun i hi => ?_, y2.lt⟩
    obtain rfl : i = 0 := by have : i < 1 := hi; omega
    exact ⟨.slice (some ⟨n1, 0, none⟩) 1 1, by rw [y2.cell?]; rfl, RdK.row (l := ([⟨0, 3, 0⟩] : List Ce)) y1 rfl (fun x _ => rfl)⟩
  · exact .inr ⟨n1 + 1 + 1, 0, 1, rfl, Nat.le_refl _, y3.at, y3.lt⟩
  · exact hB.grown hGY hB.size (fun k e => by cases e; exact Nat.le_refl _)
end Go.Proofs.YtgflelodpcgmbaaGreatDoor
/- What holds while the reference makes a normalizer. -/
namespace Go.Proofs.YtgflelodpcgmbaaGreatDoor
open Go Go.RowKit Mem
set_option maxRecDepth 100000

/-- the struct's box holds three classes, s rows and r flags -/
structure MI (Y X : World) (l : List UInt8) (B nb g s r : Nat) (pr pe : Option Addr) (kr ke : Nat) (us : List OC) : Prop where
  row : Row oV X nb 26 [osl g 3 3, slO pr s kr, slO pe r ke]
  cls : RdK 4 clL X (.slice (some ⟨g, 0, none⟩) 3 3) [clOo, clOa, clOb]
  own : Mem.Own oV X B 76 (.slice pr s kr) us
  len : us.length = s
  each : ∀ i (h : i < us.length), OwnK 3 ceL X B 75 (oV us[i]) (mkRow l i 3)
  ends : Mem.Own Value.bool X B 4 (.slice pe r ke) (mkEnds l r)
  below : Below Y.heap.size Y X
  lo : Y.heap.size ≤ nb ∧ nb < B ∧ g < B ∧ g ≠ nb ∧ B ≤ X.heap.size
section
variable {Y X X' : World} {l : List UInt8} {B nb g s r : Nat} {pr pe : Option Addr} {kr ke : Nat} {us : List OC}
theorem MI.mono (h : MI Y X l B nb g s r pr pe kr ke us) (hb : Below X.heap.size X X') : MI Y X' l B nb g s r pr pe kr ke us :=
  ⟨h.row.below hb h.row.lt, h.cls.below hb, h.own.below' hb, h.len, fun i hi => (h.each i hi).below' hb, h.ends.below' hb, h.below.trans (hb.mono h.below.size), h.lo.1, h.lo.2.1, h.lo.2.2.1, h.lo.2.2.2.1, Nat.le_trans h.lo.2.2.2.2 hb.size⟩
theorem grown_one (w : World) (b i : Nat) (v : Value) : w.grownBy (w.setCell ⟨b, i, none⟩ v) (some b) := grown_set (grown_of_below (Below.refl w.heap.size w) (some b)) i v
theorem OwnK.far {α : Type} {K : Nat} {enc : α → List OC} {w w' : World} {base : Nat} {e : TypeId} {v : Value} {l : List α} (h : OwnK K enc w base e v l) {b : Nat} (hb : b < base) (hg : w.grownBy w' (some b)) : OwnK K enc w' base e v l :=
  h.grown hg fun k hk e => by injection e with e; have := (h.lt k hk).1; omega
theorem Own_far {α : Type} {f : α → Value} {w w' : World} {base : Nat} {e : TypeId} {v : Value} {l : List α} (h : Mem.Own f w base e v l) {b : Nat} (hb : b < base) (hg : w.grownBy w' (some b)) : Mem.Own f w' base e v l :=
  h.grown' hg fun k hk e => by injection e with e; have := (h.lt k hk).1; omega
/-- a row more -/
theorem MI.cells (h : MI Y X l B nb g s r pr pe kr ke us) (u : OC) (hu : OwnK 3 ceL X B 75 (oV u) (mkRow l s 3)) (o : Obj) {p3 : Option Addr} {c3 : Nat} {w3 : World}
    (hO : Mem.Own oV w3 B 76 (.slice p3 (s + 1) c3) (us ++ [u])) (hG : (X.alloc o).grownBy w3 (Value.slice pr s kr).ownBlock) :
    MI Y (w3.setCell ⟨nb, 1, none⟩ (.slice p3 (s + 1) c3)) l B nb g (s + 1) r p3 pe c3 ke (us ++ [u]) := by
  have ha := below_al (Below.refl X.heap.size X) (Nat.le_refl _) o
  have h2 := h.mono ha
  have hnb : ∀ k, (Value.slice pr s kr).ownBlock = some k → k ≠ nb := fun k hk e => by have := (h2.own.lt k hk).1; have := h2.lo.2.1; omega
  have hng : ∀ k, (Value.slice pr s kr).ownBlock = some k → k ≠ g := fun k hk e => by have := (h2.own.lt k hk).1; have := h2.lo.2.2.1; omega
  have r1 := h2.row.grown hG (fun e => hnb nb e.symm rfl)
  have c1 := h2.cls.grown hG (fun e => hng g e.symm rfl)
  have e1 : ∀ i (hi : i < us.length), OwnK 3 ceL w3 B 75 (oV us[i]) (mkRow l i 3) := fun i hi => (h2.each i hi).grown hG ((h2.each i hi).type h2.own (by decide))
  have u1 := (hu.below' ha).grown hG ((hu.below' ha).type h2.own (by decide))
  have d1 := h2.ends.grown' hG (own_type h2.ends h2.own (by decide))
  have b1 : Below Y.heap.size Y w3 := h2.below.grown hG h2.below.size fun k hk => by have := (h2.own.lt k hk).1; have := h2.lo.1; have := h2.lo.2.1; omega
  have hg1 := grown_one w3 nb 1 (.slice p3 (s + 1) c3)
  have hsz := hG.size
  have hlo := h2.lo
  refine ⟨?_, c1.grown hg1 (fun e => by injection e with e; exact hlo.2.2.2.1 e), Own_far hO hlo.2.1 hg1, by rw [List.length_append, h.len]; rfl, fun i hi => ?_, Own_far d1 hlo.2.1 hg1, below_set b1 1 hlo.1 _, hlo.1, hlo.2.1, hlo.2.2.1, hlo.2.2.2.1, ?_⟩
  · exact r1.set 1 (slO p3 (s + 1) c3)
  · rcases Nat.lt_or_ge i us.length with hi2 | hi2
    · rw [List.getElem_append_left hi2]; exact (e1 i hi2).far hlo.2.1 hg1
    · have hie : i = us.length := by simp at hi; omega
      subst hie
      have : (us ++ [u])[us.length]'hi = u := by simp
      rw [this, h.len]
      exact u1.far hlo.2.1 hg1
  · have := hg1.size; omega
/-- a flag more -/
theorem MI.flags (h : MI Y X l B nb g s r pr pe kr ke us) (o : Obj) {p3 : Option Addr} {c3 : Nat} {w3 : World}
    (hO : Mem.Own Value.bool w3 B 4 (.slice p3 (r + 1) c3) (mkEnds l (r + 1))) (hG : (X.alloc o).grownBy w3 (Value.slice pe r ke).ownBlock) :
    (Row oV w3 nb 26 [osl g 3 3, slO pr s kr, slO pe r ke] ∧ Below Y.heap.size Y w3) ∧ MI Y (w3.setCell ⟨nb, 2, none⟩ (.slice p3 (r + 1) c3)) l B nb g s (r + 1) pr p3 kr c3 us := by
  have ha := below_al (Below.refl X.heap.size X) (Nat.le_refl _) o
  have h2 := h.mono ha
  have hnb : ∀ k, (Value.slice pe r ke).ownBlock = some k → k ≠ nb := fun k hk e => by have := (h2.ends.lt k hk).1; have := h2.lo.2.1; omega
  have hng : ∀ k, (Value.slice pe r ke).ownBlock = some k → k ≠ g := fun k hk e => by have := (h2.ends.lt k hk).1; have := h2.lo.2.2.1; omega
  have r1 := h2.row.grown hG (fun e => hnb nb e.symm rfl)
  have c1 := h2.cls.grown hG (fun e => hng g e.symm rfl)
  have e1 : ∀ i (hi : i < us.length), OwnK 3 ceL w3 B 75 (oV us[i]) (mkRow l i 3) := fun i hi => (h2.each i hi).grown hG ((h2.each i hi).type h2.ends (by decide))
  have d1 := h2.own.grown' hG (own_type h2.own h2.ends (by decide))
  have b1 : Below Y.heap.size Y w3 := h2.below.grown hG h2.below.size fun k hk => by have := (h2.ends.lt k hk).1; have := h2.lo.1; have := h2.lo.2.1; omega
  have hg1 := grown_one w3 nb 2 (.slice p3 (r + 1) c3)
  have hsz := hG.size
  have hlo := h2.lo
  refine ⟨⟨r1, b1⟩, r1.set 2 (slO p3 (r + 1) c3), c1.grown hg1 (fun e => by injection e with e; exact hlo.2.2.2.1 e), Own_far d1 hlo.2.1 hg1, h.len, fun i hi => (e1 i hi).far hlo.2.1 hg1, Own_far hO hlo.2.1 hg1, below_set b1 2 hlo.1 _, hlo.1, hlo.2.1, hlo.2.2.1, hlo.2.2.2.1, ?_⟩
  have := hg1.size; omega
end
end Go.Proofs.YtgflelodpcgmbaaGreatDoor
