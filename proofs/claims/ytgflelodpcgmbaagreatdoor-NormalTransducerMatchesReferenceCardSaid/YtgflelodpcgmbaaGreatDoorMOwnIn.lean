/- The laws of Own and Agg inside a fence. -/
import Derived.Test.YtgflelodpcgmbaaGreatDoorMOwn
import Derived.OwnWalkIn
import Derived.Test.YtgflelodpcgmbaaGreatDoorMTree
import Derived.Lib.SliceRun
namespace Go.Proofs.YtgflelodpcgmbaaGreatDoor.Mem
open Go Go.RowKit

variable {α : Type} {f : α → Value} {w w' : World} {base : Nat} {e : TypeId} {v : Value} {l : List α}
variable {F : Fence} {n : Nat} {P : Program} {ops : Array Oper} {rest : List Oper} {o : Oper} {a : Act} {Q : Exit → Act → World → Prop}

theorem in_value {u : Value} (hgd : o.guard = none) (hnd : ∀ c, o.op ≠ .defer c) (hab : ∀ g, o.about P w a.eval = some g → F.fn g) (hr : (execOp a.eval o).run P w = .ok (.value u) w')
    (hk : wpListIn F n P ops Q rest (a.put o.dst u) w') : wpListIn F n P ops Q (o :: rest) a w := by
  refine wpListIn_plain hgd fun K hK => ?_
  unfold Oper.wpIn
  refine ⟨hab, ?_⟩
  rw [Oper.semAt_plain F _ _ hnd, hr]
  exact hK _ _ hk
theorem in_skip (hgd : o.guard = none) (hnd : ∀ c, o.op ≠ .defer c) (hab : ∀ g, o.about P w a.eval = some g → F.fn g) (hr : (execOp a.eval o).run P w = .ok .skip w')
    (hk : wpListIn F n P ops Q rest (a.put o.dst undef) w') : wpListIn F n P ops Q (o :: rest) a w := by
  refine wpListIn_plain hgd fun K hK => ?_
  unfold Oper.wpIn
  refine ⟨hab, ?_⟩
  rw [Oper.semAt_plain F _ _ hnd, hr]
  exact hK _ _ hk

theorem load_agg_in {ty : TypeId} (T : AggT P ty l.length) (x : Operand) (hgd : o.guard = none) (ho : o.op = .load ty x) (b off : Nat) (hx : a.eval x = .pointer (some ⟨b, off, none⟩)) (h : At f w b off l)
    {C : Array Value} (hC : C = (l.map f).toArray) (hk : wpListIn F n P ops Q rest (a.put o.dst (.agg C)) w) : wpListIn F n P ops Q (o :: rest) a w := by
  subst hC
  refine in_value hgd (by rw [ho]; intro c hc; cases hc) (by simp [Oper.about, ho]) ?_ hk
  unfold execOp
  simp only [ho, hx, Instr.loadAt, Instr.sureAddr, Sem.run_bind, Sem.run_pure, Result.andThen_ok, run_load_agg T h]

theorem store_agg_in {ty : TypeId} {t : TypeId} {l' : List α} (T : AggT P ty l'.length) (x y : Operand) (hgd : o.guard = none) (ho : o.op = .store ty x y) (b : Nat) (hx : a.eval x = .pointer (some ⟨b, 0, none⟩))
    {C : Array Value} (hC : C = (l'.map f).toArray) (hy : a.eval y = .agg C) (h : Row f w b t l) (hl : l'.length = l.length) (h1 : ∀ x, (f x).oneCell' = true)
    (hk : ∀ w', Row f w' b t l' → w.grownBy w' (some b) → w'.heap.size = w.heap.size → wpListIn F n P ops Q rest (a.put o.dst undef) w') : wpListIn F n P ops Q (o :: rest) a w := by
  subst hC
  obtain ⟨w', hr, h2, h3, h4⟩ := run_store_agg T h hl h1
  refine in_skip hgd (by rw [ho]; intro c hc; cases hc) (by simp [Oper.about, ho]) ?_ (hk w' h2 h3 h4)
  unfold execOp
  simp only [ho, hx, hy, Instr.storeAt, Instr.sureAddr, Sem.run_bind, Sem.run_pure, Result.andThen_ok, hr]

theorem append_ad_in {t : TypeId} {bytes : Nat} (E : Elt P t e bytes) (s x : Operand) (hgd : o.guard = none) (ho : o.op = .call { callee := .builtin .append, args := #[s, x], argTypes := #[t, t] })
    (h1 : ∀ x, (f x).oneCell' = true) (hs : a.eval s = v) (hown : Own f w base e v l) (ad : Addr) (c : Nat) (m : List α) (hx : a.eval x = .slice (some ad) m.length c) (hat : ∀ j, j < m.length → w.cell? (ad.add j) = m[j]?.map f)
    (hn : (l.length + m.length) * bytes ≤ 140737488355328) (hn2 : l.length + m.length ≤ 140737488355328) (hbase : base ≤ w.heap.size) (r : List α) (hr : l ++ m = r)
    (h : ∀ p cap w', Own f w' base e (.slice p r.length cap) r → Below base w w' → w.grownBy w' v.ownBlock → wpListIn F n P ops Q rest (a.put o.dst (.slice p r.length cap)) w') :
    wpListIn F n P ops Q (o :: rest) a w := by
  obtain ⟨i, z, hi, hz, hs1, hby, hz1⟩ := E.hi
  refine wpListIn_append_own w hgd s x t ho base e i z 1 bytes E.ht hi hz hs1 hby hz1 (by decide) v l.length (l.map f) hs hown ad m.length c (m.map f) hx (by simp) ?_ ?_ (by unfold maxLen; omega) hn hbase ?_
  · intro j u hj
    rw [List.getElem?_map] at hj
    by_cases hjl : j < m.length
    · rw [hat j hjl, hj]
    · rw [List.getElem?_eq_none (by omega)] at hj; cases hj
  · intro u hu
    obtain ⟨y, _, rfl⟩ := List.mem_map.1 hu
    exact h1 y
  · intro v' w1 hown' hg hnil
    have ho' : Own f w1 base e v' r := by unfold Own; rw [← hr, List.length_append, List.map_append]; exact hown'
    obtain ⟨p, cap, rfl⟩ := ho'.slice
    exact h p cap w1 ho' ((Below.refl base w).grown hg hbase (fun k hk => (hown.lt k hk).1)) hg

theorem append_at_in {t : TypeId} {bytes : Nat} (E : Elt P t e bytes) (s x : Operand) (hgd : o.guard = none) (ho : o.op = .call { callee := .builtin .append, args := #[s, x], argTypes := #[t, t] })
    (h1 : ∀ x, (f x).oneCell' = true) (hs : a.eval s = v) (hown : Own f w base e v l) (b off c : Nat) (m : List α) (hx : a.eval x = .slice (some ⟨b, off, none⟩) m.length c) (hat : At f w b off m)
    (hn : (l.length + m.length) * bytes ≤ 140737488355328) (hn2 : l.length + m.length ≤ 140737488355328) (hbase : base ≤ w.heap.size) (r : List α) (hr : l ++ m = r)
    (h : ∀ p cap w', Own f w' base e (.slice p r.length cap) r → Below base w w' → w.grownBy w' v.ownBlock → wpListIn F n P ops Q rest (a.put o.dst (.slice p r.length cap)) w') :
    wpListIn F n P ops Q (o :: rest) a w :=
  append_ad_in E s x hgd ho h1 hs hown ⟨b, off, none⟩ c m hx (fun j hj => by
    have h2 : ((⟨b, off, none⟩ : Addr).add j) = ⟨b, off + j, none⟩ := by unfold Addr.add; split <;> simp_all
    rw [h2, hat j hj]) hn hn2 hbase r hr h

theorem append_one_in {t : TypeId} {bytes : Nat} (E : Elt P t e bytes) (s x : Operand) (hgd : o.guard = none) (ho : o.op = .call { callee := .builtin .append, args := #[s, x], argTypes := #[t, t] })
    (h1 : ∀ x, (f x).oneCell' = true) (hs : a.eval s = v) (hown : Own f w base e v l) (y : α) (u : Value) (hu : u = f y) (e1 : TypeId) (hx : a.eval x = .slice (some ⟨w.heap.size, 0, none⟩) 1 1)
    (hn : (l.length + 1) * bytes ≤ 140737488355328) (hn2 : l.length + 1 ≤ 140737488355328) (hbase : base ≤ w.heap.size) (r : List α) (hr : l ++ [y] = r)
    (h : ∀ p cap w', Own f w' base e (.slice p r.length cap) r → Below base w w' → (w.alloc (.cells #[u] e1)).grownBy w' v.ownBlock → wpListIn F n P ops Q rest (a.put o.dst (.slice p r.length cap)) w') :
    wpListIn F n P ops Q (o :: rest) a (w.alloc (.cells #[u] e1)) := by
  subst hu
  have hr' : Row f (w.alloc (.cells #[f y] e1)) w.heap.size e1 [y] := Row.new _ _ rfl
  exact append_at_in E s x hgd ho h1 hs (hown.alloc _) w.heap.size 0 1 [y] hx hr'.at hn hn2 (by simp; omega) r hr fun p cap w' h2 h3 h4 => h p cap w' h2 (((Below.refl base w).alloc hbase _).trans h3) h4

theorem append_rd_in {t : TypeId} {bytes : Nat} (E : Elt P t e bytes) (s x : Operand) (hgd : o.guard = none) (ho : o.op = .call { callee := .builtin .append, args := #[s, x], argTypes := #[t, t] })
    (h1 : ∀ x, (f x).oneCell' = true) (hs : a.eval s = v) (hown : Own f w base e v l) (m : List α) (u : Value) (hx : a.eval x = u) (hrd : Rd f w u m)
    (hn : (l.length + m.length) * bytes ≤ 140737488355328) (hn2 : l.length + m.length ≤ 140737488355328) (hbase : base ≤ w.heap.size) (r : List α) (hr : l ++ m = r)
    (h : ∀ p cap w', Own f w' base e (.slice p r.length cap) r → Below base w w' → w.grownBy w' v.ownBlock → wpListIn F n P ops Q rest (a.put o.dst (.slice p r.length cap)) w') :
    wpListIn F n P ops Q (o :: rest) a w := by
  rcases hrd with ⟨q, rfl, rfl⟩ | ⟨b, off, cap, rfl, _, hat, _⟩
  · cases q with
    | some ad => exact append_ad_in E s x hgd ho h1 hs hown ad 0 [] hx (fun j hj => by cases hj) hn hn2 hbase r hr h
    | none =>
    obtain ⟨i, z, hi, hz, hs1, hby, hz1⟩ := E.hi
    obtain ⟨p, cap, rfl⟩ := hown.slice
    rw [List.append_nil] at hr
    subst hr
    have hrun := run_append_owned_none (P := P) (w := w) base t o.type e i 1 E.ht hi _ l.length (l.map f) hown
    refine in_value hgd (by rw [ho]; intro c hc; cases hc) (by simp [Oper.about, ho, resolve, Target.leads, Sem.run_pure]) ?_ (h p cap w hown (Below.refl _ _) ⟨rfl, rfl, rfl, Nat.le_refl _, fun _ _ _ => rfl⟩)
    simp [execOp, ho, resolve, invoke, builtin, hs, hx, hrun, Result.andThen]
  · exact append_at_in E s x hgd ho h1 hs hown b off cap m hx hat hn hn2 hbase r hr h

theorem closed_at_in {u : Value} (op : Op) (hgd : o.guard = none) (ho : o.op = op) (hnd : ∀ c, op ≠ .defer c) (hab : ∀ w g, o.about P w a.eval = some g → F.fn g) (hr : ∀ w, (execOp a.eval o).run P w = .ok (.value u) w)
    (hk : wpListIn F n P ops Q rest (a.put o.dst u) w) : wpListIn F n P ops Q (o :: rest) a w :=
  in_value hgd (by rw [ho]; exact hnd) (hab w) (hr w) hk
end Go.Proofs.YtgflelodpcgmbaaGreatDoor.Mem
/- slices.Clone at bytes. -/
namespace Go.Proofs.YtgflelodpcgmbaaGreatDoor
open Go.RowKit Mem
set_option maxRecDepth 100000

theorem elt8 : Elt Tryz.prog 29 5 1 := Elt.mk' (z := .int .u8 0) Tryz.underlying29 (by kernel_rfl) rfl
theorem clone8 (w : World) (u : Value) (m : List UInt8) (hr : Rd u8V w u m) (hm : m.length ≤ 1099511627776) :
    Calls Tryz.prog 56 #[u] w fun e w' => ∃ u', e = .returned u' ∧ Mem.Own u8V w' w.heap.size 5 u' m ∧ Below w.heap.size w w' := by
  have q22 : ∀ (w : World) (a : Option Addr) (n c n' c' : Nat), (binOp .eql 29 (.slice a n c) (.slice none n' c')).run Tryz.prog w = .ok (.bool a.isNone) w := fun w a n c n' c' => Lib.run_eql_slice_nil w _ _ a n c n' c' Tryz.underlying29
  have HR := Lib.hid hr
  obtain ⟨p, c, rfl⟩ := hr.slice
  clear hr
  cases p with
  | none =>
    have hm0 : m = [] := by
      rcases HR.out with ⟨_, _, h⟩ | ⟨b, o, cap, h, _⟩
      · exact h
      · simp at h
    subst hm0
    go_enter Tryz.func56, Tryz.ntmps56
    go_wp2
    go_ret
    exact ⟨_, rfl, Own.nil _ _ _, Below.refl _ _⟩
  | some a =>
    have hO : Mem.Own u8V (w.alloc (.cells #[] 5)) w.heap.size 5 (.slice (some ⟨w.heap.size, 0, none⟩) 0 0) [] := Own.new w _ w.heap.size (Nat.le_refl _) rfl (by simp)
    have hR2 := HR.out.alloc (.cells #[] 5)
    go_enter Tryz.func56, Tryz.ntmps56
    go_wp2_with (at_builtin; (with_reducible refine append_rd elt8 (.tmp 5) (.tmp 6) ?_ ?_ u8V_one ?_ hO m _ ?_ hR2 ?_ ?_ ?_ m ?_ ?_); rfl; rfl; rfl; rfl; (simp; omega); (simp; omega); (simp); rfl; intro p3 c3 w3 hO3 hB3 hG3)
    go_ret
    exact ⟨_, rfl, hO3, ((Below.refl _ _).alloc (Nat.le_refl _) _).trans hB3⟩
end Go.Proofs.YtgflelodpcgmbaaGreatDoor
