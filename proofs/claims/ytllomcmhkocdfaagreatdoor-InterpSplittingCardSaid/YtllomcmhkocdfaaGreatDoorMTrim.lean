/- rewrite.Trim. -/
import Derived.Test.YtllomcmhkocdfaaGreatDoorMIx
import Derived.Test.YtllomcmhkocdfaaGreatDoorMTree
import Derived.Test.YtllomcmhkocdfaaGreatDoorMHeldD
import Derived.Test.YtllomcmhkocdfaaGreatDoorMHeldTail
import Derived.Test.YtllomcmhkocdfaaGreatDoorMClone8
import Derived.Test.YtllomcmhkocdfaaGreatDoorMDial
import Derived.Test.YtllomcmhkocdfaaGreatDoorMCells
import Derived.RegionTactic
import Derived.Test.YtllomcmhkocdfaaGreatDoorMStep
namespace Go.Proofs.YtllomcmhkocdfaaGreatDoor
open Go Go.RowKit Mem
set_option maxRecDepth 100000

/-- the bytes without those of the class at both ends -/
def trimL (c : Cl) (l : List UInt8) : List UInt8 := ((l.dropWhile c.has).reverse.dropWhile c.has).reverse
def sliceLen : Value → Nat
  | .slice _ n _ => n
  | _ => 0
theorem Mem.Rd.nonempty {α : Type} {f : α → Value} {w : World} {p : Option Addr} {n k : Nat} {l : List α} (h : Rd f w (.slice p n k) l) (hn : 0 < n) : ∃ b o, p = some ⟨b, o, none⟩ ∧ n = l.length ∧ n ≤ k ∧ At f w b o l ∧ b < w.heap.size := by
  rcases h with ⟨q, he, rfl⟩ | ⟨b, o, cap, he, hc, ha, hlt⟩
  · injection he with e1 e2 e3; omega
  · injection he with e1 e2 e3
    subst e1 e2 e3
    exact ⟨b, o, rfl, rfl, hc, ha, hlt⟩
theorem Mem.Rd.len {α : Type} {f : α → Value} {w : World} {p : Option Addr} {n k : Nat} {l : List α} (h : Rd f w (.slice p n k) l) : n = l.length := by
  obtain ⟨_, _, he⟩ := h.slice
  injection he

theorem list_snoc {α : Type} (l : List α) : l = [] ∨ ∃ ys y, l = ys ++ [y] := by
  cases h : l.reverse with
  | nil => exact .inl (List.reverse_eq_nil_iff.1 h)
  | cons y ys => exact .inr ⟨ys.reverse, y, by rw [← List.reverse_reverse l, h]; simp⟩

section
variable {P : Program} {ops : Array Oper} {rest : List Oper} {o : Oper} {a : Act} {Q : Exit → Act → World → Prop} {w : World}
theorem slice_low1 {t e : TypeId} (x : Operand) (hgd : o.guard = none) (ho : o.op = .slice t x (some (.const (.int .i64 1))) none none) (ht : P.underlying t = some (.slice e)) (hsz : (P.info? e).map (·.size) = some 1) (p : Option Addr) (n c : Nat)
    (hx : a.eval x = .slice p n c) (hm : 1 ≤ n) (v' : Value) (hv : sliced p 1 n c 1 = v') (hk : wpList P ops Q rest (a.put o.dst v') w) : wpList P ops Q (o :: rest) a w :=
  law_low x (.const (.int .i64 1)) hgd ho ht hsz p n c 1 hx rfl hm (by rw [hv]; exact hk)
theorem slice_hiV {t e : TypeId} (x y : Operand) (hgd : o.guard = none) (ho : o.op = .slice t x none (some y) none) (ht : P.underlying t = some (.slice e)) (hsz : (P.info? e).map (·.size) = some 1) (p : Option Addr) (n c m : Nat)
    (hx : a.eval x = .slice p n c) (hy : a.eval y = .int .i64 (m : Int)) (hm : m ≤ c) (v' : Value) (hv : sliced p 0 m c 1 = v') (hk : wpList P ops Q rest (a.put o.dst v') w) : wpList P ops Q (o :: rest) a w :=
  law_high x y hgd ho ht hsz p n c m hx hy hm (by rw [hv]; exact hk)
end

set_option maxHeartbeats 8000000 in
theorem rTrim (w : World) (c : Cl) (u : Value) (l : List UInt8) (hu : Rd u8V w u l) (hl : l.length ≤ 4096) :
    Calls Tryz.prog 55 #[.agg (clA c), u] w fun e w' => ∃ u', e = .returned u' ∧ Mem.Own u8V w' w.heap.size 5 u' (trimL c l) ∧ Below w.heap.size w w' := by
  obtain ⟨CC, HCC, HCA⟩ : ∃ CC, Hid (CC = ((clL c).map oV).toArray) ∧ Hid (CC = clA c) := ⟨_, Lib.hid rfl, Lib.hid rfl⟩
  rw [← HCA.out]
  have HL := Lib.hid hl
  clear hl
  go_enter Tryz.func55, Tryz.ntmps55
  go_upto_region 1 with (fail)
  obtain ⟨W, hW, hR, hB⟩ : ∃ W, w.alloc (.cells CC 34) = W ∧ Row oV W w.heap.size 34 (clL c) ∧ Below w.heap.size w W := ⟨_, rfl, by rw [HCC.out]; exact Row.new _ _ rfl, (Below.refl _ _).alloc (Nat.le_refl _) _⟩
  rw [hW]
  clear hW
  have HU := Lib.hid (hu.below hB)
  have HB := Lib.hid hB
  have HRow := Lib.hid hR
  clear hu hB hR
  have hsW := HB.out.size
  have hlW := HRow.out.lt
  go_loopw [1] (fun v wr => ∃ (p : Option Addr) (n k : Nat) (l1 : List UInt8), v = .slice p n k ∧ Rd u8V wr (.slice p n k) l1 ∧ l1.length ≤ l.length ∧ l1.dropWhile c.has = l.dropWhile c.has ∧ Below W.heap.size W wr) (fun v _ => sliceLen v)
  case atStart =>
    obtain ⟨p, k, rfl⟩ := HU.out.slice
    exact ⟨p, _, k, l, rfl, HU.out, Nat.le_refl _, rfl, Below.refl _ _⟩
  case round =>
    obtain ⟨p, n, k, l1, rfl, hrd, hl1, hdw, hb⟩ := hrel
    have HH := Lib.hid (And.intro hrd (And.intro hl1 (And.intro hdw hb)))
    have hwr := HRow.out.below hb hlW
    have hwl := hwr.lt
    have hbs := hb.size
    cases l1 with
    | nil =>
      obtain rfl : n = 0 := hrd.len
      clear hrd hl1 hdw hb hwr
      go_wp2_with fail
      refine region_headsT (S := fun Z => Below wr.heap.size wr Z) 9 rfl (by kernel_rfl) (Below.refl _ _).drew fun hS => ?_
      refine headsT_takeD (i := 0) (d := 5) (v := .slice p 0 k) (by kernel_rfl) rfl rfl (by omega) (by kernel_rfl) (by kernel_rfl) (fun c a w h => h) (yieldsIf_op rfl (fun w => by first | rfl | kernel_rfl | (go_simp; done))) hS ?_
      simp only [List.setIfInBounds_toArray, List.set_cons_succ, List.set_cons_zero]
      refine headsT_takeD (i := 1) (d := 6) (v := .int .i64 0) (by kernel_rfl) rfl rfl (by omega) (by kernel_rfl) (by kernel_rfl) (fun c a w h => h) (yieldsIf_op rfl (fun w => by first | rfl | kernel_rfl | (go_simp; done))) hS ?_
      simp only [List.setIfInBounds_toArray, List.set_cons_succ, List.set_cons_zero]
      refine headsT_takeD (i := 2) (d := 7) (v := .bool false) (by kernel_rfl) rfl rfl (by omega) (by kernel_rfl) (by kernel_rfl) (fun c a w h => h) (yieldsIf_op rfl (fun w => by first | rfl | kernel_rfl | (go_simp; done))) hS ?_
      simp only [List.setIfInBounds_toArray, List.set_cons_succ, List.set_cons_zero]
      refine headsT_takeD (i := 3) (d := 8) (v := .bool false) (by kernel_rfl) rfl rfl (by omega) (by kernel_rfl) (by kernel_rfl) (fun c a w h => h) (yieldsIf_op rfl (fun w => by first | rfl | kernel_rfl | (go_simp; done))) hS ?_
      simp only [List.setIfInBounds_toArray, List.set_cons_succ, List.set_cons_zero]
      refine headsT_takeD (i := 4) (d := 9) (v := undef) (by kernel_rfl) rfl rfl (by omega) (by kernel_rfl) (by kernel_rfl) (fun c a w h => h) (yieldsIf_skip (by first | rfl | kernel_rfl)) hS ?_
      simp only [List.setIfInBounds_toArray, List.set_cons_succ, List.set_cons_zero]
      refine headsT_takeD (i := 5) (d := 10) (v := undef) (by kernel_rfl) rfl rfl (by omega) (by kernel_rfl) (by kernel_rfl) (fun c a w h => h) (yieldsIf_skip (by first | rfl | kernel_rfl)) hS ?_
      simp only [List.setIfInBounds_toArray, List.set_cons_succ, List.set_cons_zero]
      refine headsT_takeD (i := 6) (d := 11) (v := undef) (by kernel_rfl) rfl rfl (by omega) (by kernel_rfl) (by kernel_rfl) (fun c a w h => h) (yieldsIf_skip (by first | rfl | kernel_rfl)) hS ?_
      simp only [List.setIfInBounds_toArray, List.set_cons_succ, List.set_cons_zero]
      refine headsT_takeD (i := 7) (d := 12) (v := undef) (by kernel_rfl) rfl rfl (by omega) (by kernel_rfl) (by kernel_rfl) (fun c a w h => h) (yieldsIf_skip (by first | rfl | kernel_rfl)) hS ?_
      simp only [List.setIfInBounds_toArray, List.set_cons_succ, List.set_cons_zero]
      refine headsT_takeD (i := 8) (d := 13) (v := undef) (by kernel_rfl) rfl rfl (by omega) (by kernel_rfl) (by kernel_rfl) (fun c a w h => h) (yieldsIf_skip (by first | rfl | kernel_rfl)) hS ?_
      simp only [List.setIfInBounds_toArray, List.set_cons_succ, List.set_cons_zero]
      refine headsT_tail (by kernel_rfl) ?_
      simp only [List.drop]
      have HT : Hid (Rd u8V wr.drew (.slice p 0 k) (l.dropWhile c.has) ∧ (l.dropWhile c.has).length ≤ 4096 ∧ Below W.heap.size W wr.drew) := Lib.hid (by
        obtain ⟨h1, h2, h3, h4⟩ := HH.out
        rw [← h3]
        exact ⟨h1, by simp, h4.drew⟩)
      clear HH
      go_wp2_with fail
      go_loopw [1] (fun v wr => ∃ (p : Option Addr) (n k : Nat) (l2 : List UInt8), v = .slice p n k ∧ Rd u8V wr (.slice p n k) l2 ∧ l2.length ≤ 4096 ∧ l2.reverse.dropWhile c.has = (l.dropWhile c.has).reverse.dropWhile c.has ∧ Below W.heap.size W wr) (fun v _ => sliceLen v)
      case atStart => exact ⟨_, _, _, _, rfl, HT.out.1, HT.out.2.1, rfl, HT.out.2.2⟩
      case round =>
        clear HT
        obtain ⟨p, n, k, l2, rfl, hrd, hl2, hdw, hb⟩ := hrel
        have HH := Lib.hid (And.intro hrd (And.intro hl2 (And.intro hdw hb)))
        have hwr := HRow.out.below hb hlW
        have hwl := hwr.lt
        have hbs := hb.size
        rcases list_snoc l2 with hl0 | ⟨ys, y, hl0⟩
        · have hn : n = 0 := by rw [hrd.len, hl0]; rfl
          subst hn
          have HQ : Hid (Rd u8V wr.drew (.slice p 0 k) (trimL c l) ∧ (trimL c l).length ≤ 4096 ∧ Below W.heap.size W wr.drew) := Lib.hid (by
            have ht : trimL c l = l2 := by unfold trimL; rw [← hdw, hl0]; rfl
            rw [ht]
            exact ⟨hrd, hl2, hb.drew⟩)
          clear hrd hl2 hdw hb hwr hl0 HH
          go_wp2_with fail
          refine region_headsT (S := fun Z => Below wr.heap.size wr Z) 12 rfl (by kernel_rfl) (Below.refl _ _).drew fun hS => ?_
          refine headsT_takeD (i := 0) (d := 17) (v := .slice p 0 k) (by kernel_rfl) rfl rfl (by omega) (by kernel_rfl) (by kernel_rfl) (fun c a w h => h) (yieldsIf_op rfl (fun w => by first | rfl | kernel_rfl | (go_simp; done))) hS ?_
          simp only [List.setIfInBounds_toArray, List.set_cons_succ, List.set_cons_zero]
          refine headsT_takeD (i := 1) (d := 18) (v := .int .i64 0) (by kernel_rfl) rfl rfl (by omega) (by kernel_rfl) (by kernel_rfl) (fun c a w h => h) (yieldsIf_op rfl (fun w => by first | rfl | kernel_rfl | (go_simp; done))) hS ?_
          simp only [List.setIfInBounds_toArray, List.set_cons_succ, List.set_cons_zero]
          refine headsT_takeD (i := 2) (d := 19) (v := .bool false) (by kernel_rfl) rfl rfl (by omega) (by kernel_rfl) (by kernel_rfl) (fun c a w h => h) (yieldsIf_op rfl (fun w => by first | rfl | kernel_rfl | (go_simp; done))) hS ?_
          simp only [List.setIfInBounds_toArray, List.set_cons_succ, List.set_cons_zero]
          refine headsT_takeD (i := 3) (d := 20) (v := .bool false) (by kernel_rfl) rfl rfl (by omega) (by kernel_rfl) (by kernel_rfl) (fun c a w h => h) (yieldsIf_op rfl (fun w => by first | rfl | kernel_rfl | (go_simp; done))) hS ?_
          simp only [List.setIfInBounds_toArray, List.set_cons_succ, List.set_cons_zero]
          refine headsT_takeD (i := 4) (d := 21) (v := undef) (by kernel_rfl) rfl rfl (by omega) (by kernel_rfl) (by kernel_rfl) (fun c a w h => h) (yieldsIf_skip (by first | rfl | kernel_rfl)) hS ?_
          simp only [List.setIfInBounds_toArray, List.set_cons_succ, List.set_cons_zero]
          refine headsT_takeD (i := 5) (d := 22) (v := undef) (by kernel_rfl) rfl rfl (by omega) (by kernel_rfl) (by kernel_rfl) (fun c a w h => h) (yieldsIf_skip (by first | rfl | kernel_rfl)) hS ?_
          simp only [List.setIfInBounds_toArray, List.set_cons_succ, List.set_cons_zero]
          refine headsT_takeD (i := 6) (d := 23) (v := undef) (by kernel_rfl) rfl rfl (by omega) (by kernel_rfl) (by kernel_rfl) (fun c a w h => h) (yieldsIf_skip (by first | rfl | kernel_rfl)) hS ?_
          simp only [List.setIfInBounds_toArray, List.set_cons_succ, List.set_cons_zero]
          refine headsT_takeD (i := 7) (d := 24) (v := undef) (by kernel_rfl) rfl rfl (by omega) (by kernel_rfl) (by kernel_rfl) (fun c a w h => h) (yieldsIf_skip (by first | rfl | kernel_rfl)) hS ?_
          simp only [List.setIfInBounds_toArray, List.set_cons_succ, List.set_cons_zero]
          refine headsT_takeD (i := 8) (d := 25) (v := undef) (by kernel_rfl) rfl rfl (by omega) (by kernel_rfl) (by kernel_rfl) (fun c a w h => h) (yieldsIf_skip (by first | rfl | kernel_rfl)) hS ?_
          simp only [List.setIfInBounds_toArray, List.set_cons_succ, List.set_cons_zero]
          refine headsT_takeD (i := 9) (d := 26) (v := undef) (by kernel_rfl) rfl rfl (by omega) (by kernel_rfl) (by kernel_rfl) (fun c a w h => h) (yieldsIf_skip (by first | rfl | kernel_rfl)) hS ?_
          simp only [List.setIfInBounds_toArray, List.set_cons_succ, List.set_cons_zero]
          refine headsT_takeD (i := 10) (d := 27) (v := undef) (by kernel_rfl) rfl rfl (by omega) (by kernel_rfl) (by kernel_rfl) (fun c a w h => h) (yieldsIf_skip (by first | rfl | kernel_rfl)) hS ?_
          simp only [List.setIfInBounds_toArray, List.set_cons_succ, List.set_cons_zero]
          refine headsT_takeD (i := 11) (d := 28) (v := undef) (by kernel_rfl) rfl rfl (by omega) (by kernel_rfl) (by kernel_rfl) (fun c a w h => h) (yieldsIf_skip (by first | rfl | kernel_rfl)) hS ?_
          simp only [List.setIfInBounds_toArray, List.set_cons_succ, List.set_cons_zero]
          refine headsT_tail (by kernel_rfl) ?_
          simp only [List.drop]
          go_wp2_with fail
          refine (clone8 _ _ (trimL c l) HQ.out.1 (Nat.le_trans HQ.out.2.1 (by decide))).mono ?_
          rintro e Wz ⟨u', rfl, hO, hBz⟩
          have hBt := HB.out.trans ((HQ.out.2.2.trans (hBz.mono HQ.out.2.2.size)).mono HB.out.size)
          have hOt := hO.mono (Nat.le_trans HB.out.size HQ.out.2.2.size)
          clear HQ hO hBz
          go_wp2_with fail
          go_ret
          exact ⟨_, rfl, hOt, hBt⟩
        · have hn := hrd.len
          have hn2 : n = ys.length + 1 := by rw [hn, hl0]; simp
          obtain ⟨b, o, rfl, -, hnk, hat, hblt⟩ := hrd.nonempty (by omega)
          obtain ⟨m, hm⟩ : ∃ m, m = ys.length := ⟨_, rfl⟩
          have hy : wr.cell? ⟨b, o + m, none⟩ = some (.int .u8 (y.toNat : Int)) := by
            rw [hat m (by rw [hl0, hm]; simp), hl0, hm, List.getElem?_append_right (Nat.le_refl _)]; simp; rfl
          have HC : Hid (∀ Z, Below wr.heap.size wr Z → Row oV Z w.heap.size 34 (clL c) ∧ Z.cell? ⟨b, o + m, none⟩ = some (.int .u8 (y.toNat : Int))) := Lib.hid fun Z hZ => ⟨hwr.below hZ hwl, (hZ.cell (p := ⟨b, o + m, none⟩) hblt).trans hy⟩
          have hn0 : (0 : Int) < (n : Int) := by omega
          have hnm : (n : Int) - 1 = (m : Int) := by omega
          have hmn : (m : Int) < (n : Int) := by omega
          have hnp : 0 < n := by omega
          have hnz : n ≠ 0 := by omega
          have hwm := wI' (m : Int) (by omega) (by omega)
          have hn4 : (n : Int) ≤ 4096 := by omega
          have hmk : m ≤ k := by omega
          have HN : Hid (n = m + 1 ∧ m = ys.length ∧ l2 = ys ++ [y]) := Lib.hid ⟨by omega, hm, hl0⟩
          clear hrd hl2 hdw hb hwr hn hat hy hn2 hm hl0
          go_wp2_with fail
          refine region_headsT (S := fun Z => Below wr.heap.size wr Z) 12 rfl (by kernel_rfl) (Below.refl _ _).drew fun hS => ?_
          refine headsT_takeD (i := 0) (d := 17) (v := .slice (some ⟨b, o, none⟩) n k) (by kernel_rfl) rfl rfl (by omega) (by kernel_rfl) (by kernel_rfl) (fun c a w h => h) (yieldsIf_op rfl (fun w => by first | rfl | kernel_rfl | (go_simp; done))) hS ?_
          simp only [List.setIfInBounds_toArray, List.set_cons_succ, List.set_cons_zero]
          refine headsT_takeD (i := 1) (d := 18) (v := .int .i64 n) (by kernel_rfl) rfl rfl (by omega) (by kernel_rfl) (by kernel_rfl) (fun c a w h => h) (yieldsIf_op rfl (fun w => by first | rfl | kernel_rfl | (go_simp; done))) hS ?_
          simp only [List.setIfInBounds_toArray, List.set_cons_succ, List.set_cons_zero]
          refine headsT_takeD (i := 2) (d := 19) (v := .bool true) (by kernel_rfl) rfl rfl (by omega) (by kernel_rfl) (by kernel_rfl) (fun c a w h => h) (yieldsIf_op rfl (fun w => by go_simp)) hS ?_
          simp only [List.setIfInBounds_toArray, List.set_cons_succ, List.set_cons_zero]
          refine headsT_takeD (i := 3) (d := 20) (v := .bool true) (by kernel_rfl) rfl rfl (by omega) (by kernel_rfl) (by kernel_rfl) (fun c a w h => h) (yieldsIf_op rfl (fun w => by first | rfl | kernel_rfl | (go_simp; done))) hS ?_
          simp only [List.setIfInBounds_toArray, List.set_cons_succ, List.set_cons_zero]
          refine headsT_takeD (i := 4) (d := 21) (v := .agg CC) (by kernel_rfl) rfl rfl (by omega) (by kernel_rfl) (by kernel_rfl) (fun c a w h => h) (yieldsIf_load (f := oV) (l := clL c) aggCl (.tmp 2) rfl w.heap.size 0 rfl (fun W' h => (HC.out W' h).1.at) HCC.out rfl) hS ?_
          simp only [List.setIfInBounds_toArray, List.set_cons_succ, List.set_cons_zero]
          refine headsT_takeD (i := 5) (d := 22) (v := .slice (some ⟨b, o, none⟩) n k) (by kernel_rfl) rfl rfl (by omega) (by kernel_rfl) (by kernel_rfl) (fun c a w h => h) (yieldsIf_op rfl (fun w => by first | rfl | kernel_rfl | (go_simp; done))) hS ?_
          simp only [List.setIfInBounds_toArray, List.set_cons_succ, List.set_cons_zero]
          refine headsT_takeD (i := 6) (d := 23) (v := .slice (some ⟨b, o, none⟩) n k) (by kernel_rfl) rfl rfl (by omega) (by kernel_rfl) (by kernel_rfl) (fun c a w h => h) (yieldsIf_op rfl (fun w => by first | rfl | kernel_rfl | (go_simp; done))) hS ?_
          simp only [List.setIfInBounds_toArray, List.set_cons_succ, List.set_cons_zero]
          refine headsT_takeD (i := 7) (d := 24) (v := .int .i64 n) (by kernel_rfl) rfl rfl (by omega) (by kernel_rfl) (by kernel_rfl) (fun c a w h => h) (yieldsIf_op rfl (fun w => by first | rfl | kernel_rfl | (go_simp; done))) hS ?_
          simp only [List.setIfInBounds_toArray, List.set_cons_succ, List.set_cons_zero]
          refine headsT_takeD (i := 8) (d := 25) (v := .int .i64 (m : Int)) (by kernel_rfl) rfl rfl (by omega) (by kernel_rfl) (by kernel_rfl) (fun c a w h => h) (yieldsIf_op rfl (fun w => by go_simp)) hS ?_
          simp only [List.setIfInBounds_toArray, List.set_cons_succ, List.set_cons_zero]
          refine headsT_takeD (i := 9) (d := 26) (v := .pointer (some ⟨b, o + m, none⟩)) (by kernel_rfl) rfl rfl (by omega) (by kernel_rfl) (by kernel_rfl) (fun c a w h => h) (yieldsIf_op rfl (fun w => by go_simp)) hS ?_
          simp only [List.setIfInBounds_toArray, List.set_cons_succ, List.set_cons_zero]
          refine headsT_takeD (i := 10) (d := 27) (v := .int .u8 (y.toNat : Int)) (by kernel_rfl) rfl rfl (by omega) (by kernel_rfl) (by kernel_rfl) (fun c a w h => h) (.inl ⟨by first | rfl | kernel_rfl, fun W' h => by have q0 := (HC.out W' h).2; go_simp⟩) hS ?_
          simp only [List.setIfInBounds_toArray, List.set_cons_succ, List.set_cons_zero]
          refine headsT_ready (rs := [11]) (by kernel_rfl) (by simp) (AllReadyT.cons (by omega) rfl (fun K' hK => ?_) AllReadyT.nil)
          refine callD (d := 28) (g := 86) (args := #[.agg CC, .int .u8 (y.toNat : Int)]) rfl (by first | rfl | kernel_rfl) (by first | kernel_rfl | (simp [execOp, resolve, invoke, Act.eval]) | go_simp) ?_
          rw [HCA.out]
          refine (clHas _ c y).mono ?_
          rintro e Wb ⟨rfl, hBb⟩
          rw [← HCA.out]
          replace hS := hS.trans (hBb.mono hS.size)
          refine ⟨_, rfl, hK.out _ _ hS fun _ => ?_⟩
          clear hK hBb
          simp only [List.setIfInBounds_toArray, List.set_cons_succ, List.set_cons_zero]
          refine headsT_tail (by kernel_rfl) ?_
          simp only [List.drop]
          obtain ⟨p', k', Hs⟩ : ∃ p' k', Hid (sliced (some ⟨b, o, none⟩) 0 m k 1 = .slice p' m k') := ⟨_, _, Lib.hid rfl⟩
          cases hh : c.has y
          · have HQ : Hid (Rd u8V Wb (.slice (some ⟨b, o, none⟩) n k) (trimL c l) ∧ (trimL c l).length ≤ 4096 ∧ Below W.heap.size W Wb) := Lib.hid (by
              obtain ⟨h1, h2, h3, h4⟩ := HH.out
              have ht : trimL c l = l2 := by
                unfold trimL
                rw [← h3, HN.out.2.2, List.reverse_append, List.reverse_singleton, List.singleton_append, List.dropWhile_cons_of_neg (by simpa using hh)]; simp
              rw [ht]
              exact ⟨h1.below hS, h2, h4.trans (hS.mono hbs)⟩)
            clear hh HC Hs HN hn0 hnp hnz hwm hnm hmn hn4 hmk hnk hblt HH
            go_wp2_with fail
            refine (clone8 _ _ (trimL c l) HQ.out.1 (Nat.le_trans HQ.out.2.1 (by decide))).mono ?_
            rintro e Wz ⟨u', rfl, hO, hBz⟩
            have hBt := HB.out.trans ((HQ.out.2.2.trans (hBz.mono HQ.out.2.2.size)).mono HB.out.size)
            have hOt := hO.mono (Nat.le_trans HB.out.size HQ.out.2.2.size)
            clear HQ hO hBz
            go_wp2_with fail
            go_ret
            exact ⟨_, rfl, hOt, hBt⟩
          · go_wp2_with (first
              | ((with_reducible refine slice_hiV (.tmp 30) (.tmp 33) ?_ ?_ underB sizeB (some ⟨b, o, none⟩) n k m ?_ ?_ hmk _ Hs.out ?_); rfl; rfl; rfl; (first | rfl | exact congrArg (Value.int .i64) hnm)))
            obtain ⟨h1, h2, h3, h4⟩ := HH.out
            have hsl := h1.slc 0 m (Nat.zero_le _) (by omega)
            rw [Hs.out] at hsl
            have hys : (l2.drop 0).take (m - 0) = ys := by rw [HN.out.2.2, HN.out.2.1]; simp
            rw [hys] at hsl
            refine ⟨⟨p', m, k', ys, rfl, hsl.below hS, by rw [HN.out.2.2] at h2; simp at h2; omega, ?_, h4.trans (hS.mono hbs)⟩, by have := HN.out.1; simp only [sliceLen]; omega⟩
            rw [← h3, HN.out.2.2, List.reverse_append, List.reverse_singleton, List.singleton_append, List.dropWhile_cons_of_pos hh]
    | cons y ys =>
      have hn := hrd.len
      obtain ⟨b, o, rfl, -, hnk, hat, hblt⟩ := hrd.nonempty (by rw [hn]; simp)
      have hy : wr.cell? ⟨b, o, none⟩ = some (.int .u8 (y.toNat : Int)) := hat 0 (by simp)
      have HC : Hid (∀ Z, Below wr.heap.size wr Z → Row oV Z w.heap.size 34 (clL c) ∧ Z.cell? ⟨b, o, none⟩ = some (.int .u8 (y.toNat : Int))) := Lib.hid fun Z hZ => ⟨hwr.below hZ hwl, (hZ.cell (p := ⟨b, o, none⟩) hblt).trans hy⟩
      have hn0 : (0 : Int) < (n : Int) := by rw [hn, List.length_cons]; omega
      have hn1 : 1 ≤ n := by omega
      have hnp : 0 < n := by omega
      have hnz : n ≠ 0 := by omega
      have HN := Lib.hid hn
      clear hrd hl1 hdw hb hwr hn hat hy
      go_wp2_with fail
      refine region_headsT (S := fun Z => Below wr.heap.size wr Z) 9 rfl (by kernel_rfl) (Below.refl _ _).drew fun hS => ?_
      refine headsT_takeD (i := 0) (d := 5) (v := .slice (some ⟨b, o, none⟩) n k) (by kernel_rfl) rfl rfl (by omega) (by kernel_rfl) (by kernel_rfl) (fun c a w h => h) (yieldsIf_op rfl (fun w => by first | rfl | kernel_rfl | (go_simp; done))) hS ?_
      simp only [List.setIfInBounds_toArray, List.set_cons_succ, List.set_cons_zero]
      refine headsT_takeD (i := 1) (d := 6) (v := .int .i64 n) (by kernel_rfl) rfl rfl (by omega) (by kernel_rfl) (by kernel_rfl) (fun c a w h => h) (yieldsIf_op rfl (fun w => by first | rfl | kernel_rfl | (go_simp; done))) hS ?_
      simp only [List.setIfInBounds_toArray, List.set_cons_succ, List.set_cons_zero]
      refine headsT_takeD (i := 2) (d := 7) (v := .bool true) (by kernel_rfl) rfl rfl (by omega) (by kernel_rfl) (by kernel_rfl) (fun c a w h => h) (yieldsIf_op rfl (fun w => by go_simp)) hS ?_
      simp only [List.setIfInBounds_toArray, List.set_cons_succ, List.set_cons_zero]
      refine headsT_takeD (i := 3) (d := 8) (v := .bool true) (by kernel_rfl) rfl rfl (by omega) (by kernel_rfl) (by kernel_rfl) (fun c a w h => h) (yieldsIf_op rfl (fun w => by first | rfl | kernel_rfl | (go_simp; done))) hS ?_
      simp only [List.setIfInBounds_toArray, List.set_cons_succ, List.set_cons_zero]
      refine headsT_takeD (i := 4) (d := 9) (v := .agg CC) (by kernel_rfl) rfl rfl (by omega) (by kernel_rfl) (by kernel_rfl) (fun c a w h => h) (yieldsIf_load (f := oV) (l := clL c) aggCl (.tmp 2) rfl w.heap.size 0 rfl (fun W' h => (HC.out W' h).1.at) HCC.out rfl) hS ?_
      simp only [List.setIfInBounds_toArray, List.set_cons_succ, List.set_cons_zero]
      refine headsT_takeD (i := 5) (d := 10) (v := .slice (some ⟨b, o, none⟩) n k) (by kernel_rfl) rfl rfl (by omega) (by kernel_rfl) (by kernel_rfl) (fun c a w h => h) (yieldsIf_op rfl (fun w => by first | rfl | kernel_rfl | (go_simp; done))) hS ?_
      simp only [List.setIfInBounds_toArray, List.set_cons_succ, List.set_cons_zero]
      refine headsT_takeD (i := 6) (d := 11) (v := .pointer (some ⟨b, o, none⟩)) (by kernel_rfl) rfl rfl (by omega) (by kernel_rfl) (by kernel_rfl) (fun c a w h => h) (yieldsIf_op rfl (fun w => by go_simp)) hS ?_
      simp only [List.setIfInBounds_toArray, List.set_cons_succ, List.set_cons_zero]
      refine headsT_takeD (i := 7) (d := 12) (v := .int .u8 (y.toNat : Int)) (by kernel_rfl) rfl rfl (by omega) (by kernel_rfl) (by kernel_rfl) (fun c a w h => h) (.inl ⟨by first | rfl | kernel_rfl, fun W' h => by have q0 := (HC.out W' h).2; go_simp⟩) hS ?_
      simp only [List.setIfInBounds_toArray, List.set_cons_succ, List.set_cons_zero]
      refine headsT_ready (rs := [8]) (by kernel_rfl) (by simp) (AllReadyT.cons (by omega) rfl (fun K' hK => ?_) AllReadyT.nil)
      refine callD (d := 13) (g := 86) (args := #[.agg CC, .int .u8 (y.toNat : Int)]) rfl (by first | rfl | kernel_rfl) (by first | kernel_rfl | (simp [execOp, resolve, invoke, Act.eval]) | go_simp) ?_
      rw [HCA.out]
      refine (clHas _ c y).mono ?_
      rintro e Wb ⟨rfl, hBb⟩
      rw [← HCA.out]
      replace hS := hS.trans (hBb.mono hS.size)
      refine ⟨_, rfl, hK.out _ _ hS fun _ => ?_⟩
      clear hK hBb
      simp only [List.setIfInBounds_toArray, List.set_cons_succ, List.set_cons_zero]
      refine headsT_tail (by kernel_rfl) ?_
      simp only [List.drop]
      obtain ⟨p', k', Hs⟩ : ∃ p' k', Hid (sliced (some ⟨b, o, none⟩) 1 n k 1 = .slice p' (n - 1) k') := ⟨_, _, Lib.hid rfl⟩
      obtain ⟨m, Hm⟩ : ∃ m, Hid (n - 1 = m) := ⟨_, Lib.hid rfl⟩
      rw [Hm.out] at Hs
      cases hh : c.has y
      · have HT : Hid (Rd u8V Wb (.slice (some ⟨b, o, none⟩) n k) (l.dropWhile c.has) ∧ (l.dropWhile c.has).length ≤ 4096 ∧ Below W.heap.size W Wb) := Lib.hid (by
          obtain ⟨h1, h2, h3, h4⟩ := HH.out
          rw [← h3, List.dropWhile_cons_of_neg (by simpa using hh)]
          exact ⟨h1.below hS, by have := HL.out; omega, h4.trans (hS.mono hbs)⟩)
        clear hh HC Hs Hm HN hn0 hn1 hnp hnz hnk hblt HH
        generalize (some ⟨b, o, none⟩ : Option Addr) = p at HT ⊢
        go_wp2_with fail
        go_loopw [1] (fun v wr => ∃ (p : Option Addr) (n k : Nat) (l2 : List UInt8), v = .slice p n k ∧ Rd u8V wr (.slice p n k) l2 ∧ l2.length ≤ 4096 ∧ l2.reverse.dropWhile c.has = (l.dropWhile c.has).reverse.dropWhile c.has ∧ Below W.heap.size W wr) (fun v _ => sliceLen v)
        case atStart => exact ⟨_, _, _, _, rfl, HT.out.1, HT.out.2.1, rfl, HT.out.2.2⟩
        case round =>
          clear HT
          obtain ⟨p, n, k, l2, rfl, hrd, hl2, hdw, hb⟩ := hrel
          have HH := Lib.hid (And.intro hrd (And.intro hl2 (And.intro hdw hb)))
          have hwr := HRow.out.below hb hlW
          have hwl := hwr.lt
          have hbs := hb.size
          rcases list_snoc l2 with hl0 | ⟨ys, y, hl0⟩
          · have hn : n = 0 := by rw [hrd.len, hl0]; rfl
            subst hn
            have HQ : Hid (Rd u8V wr.drew (.slice p 0 k) (trimL c l) ∧ (trimL c l).length ≤ 4096 ∧ Below W.heap.size W wr.drew) := Lib.hid (by
              have ht : trimL c l = l2 := by unfold trimL; rw [← hdw, hl0]; rfl
              rw [ht]
              exact ⟨hrd, hl2, hb.drew⟩)
            clear hrd hl2 hdw hb hwr hl0 HH
            go_wp2_with fail
            refine region_headsT (S := fun Z => Below wr.heap.size wr Z) 12 rfl (by kernel_rfl) (Below.refl _ _).drew fun hS => ?_
            refine headsT_takeD (i := 0) (d := 17) (v := .slice p 0 k) (by kernel_rfl) rfl rfl (by omega) (by kernel_rfl) (by kernel_rfl) (fun c a w h => h) (yieldsIf_op rfl (fun w => by first | rfl | kernel_rfl | (go_simp; done))) hS ?_
            simp only [List.setIfInBounds_toArray, List.set_cons_succ, List.set_cons_zero]
            refine headsT_takeD (i := 1) (d := 18) (v := .int .i64 0) (by kernel_rfl) rfl rfl (by omega) (by kernel_rfl) (by kernel_rfl) (fun c a w h => h) (yieldsIf_op rfl (fun w => by first | rfl | kernel_rfl | (go_simp; done))) hS ?_
            simp only [List.setIfInBounds_toArray, List.set_cons_succ, List.set_cons_zero]
            refine headsT_takeD (i := 2) (d := 19) (v := .bool false) (by kernel_rfl) rfl rfl (by omega) (by kernel_rfl) (by kernel_rfl) (fun c a w h => h) (yieldsIf_op rfl (fun w => by first | rfl | kernel_rfl | (go_simp; done))) hS ?_
            simp only [List.setIfInBounds_toArray, List.set_cons_succ, List.set_cons_zero]
            refine headsT_takeD (i := 3) (d := 20) (v := .bool false) (by kernel_rfl) rfl rfl (by omega) (by kernel_rfl) (by kernel_rfl) (fun c a w h => h) (yieldsIf_op rfl (fun w => by first | rfl | kernel_rfl | (go_simp; done))) hS ?_
            simp only [List.setIfInBounds_toArray, List.set_cons_succ, List.set_cons_zero]
            refine headsT_takeD (i := 4) (d := 21) (v := undef) (by kernel_rfl) rfl rfl (by omega) (by kernel_rfl) (by kernel_rfl) (fun c a w h => h) (yieldsIf_skip (by first | rfl | kernel_rfl)) hS ?_
            simp only [List.setIfInBounds_toArray, List.set_cons_succ, List.set_cons_zero]
            refine headsT_takeD (i := 5) (d := 22) (v := undef) (by kernel_rfl) rfl rfl (by omega) (by kernel_rfl) (by kernel_rfl) (fun c a w h => h) (yieldsIf_skip (by first | rfl | kernel_rfl)) hS ?_
            simp only [List.setIfInBounds_toArray, List.set_cons_succ, List.set_cons_zero]
            refine headsT_takeD (i := 6) (d := 23) (v := undef) (by kernel_rfl) rfl rfl (by omega) (by kernel_rfl) (by kernel_rfl) (fun c a w h => h) (yieldsIf_skip (by first | rfl | kernel_rfl)) hS ?_
            simp only [List.setIfInBounds_toArray, List.set_cons_succ, List.set_cons_zero]
            refine headsT_takeD (i := 7) (d := 24) (v := undef) (by kernel_rfl) rfl rfl (by omega) (by kernel_rfl) (by kernel_rfl) (fun c a w h => h) (yieldsIf_skip (by first | rfl | kernel_rfl)) hS ?_
            simp only [List.setIfInBounds_toArray, List.set_cons_succ, List.set_cons_zero]
            refine headsT_takeD (i := 8) (d := 25) (v := undef) (by kernel_rfl) rfl rfl (by omega) (by kernel_rfl) (by kernel_rfl) (fun c a w h => h) (yieldsIf_skip (by first | rfl | kernel_rfl)) hS ?_
            simp only [List.setIfInBounds_toArray, List.set_cons_succ, List.set_cons_zero]
            refine headsT_takeD (i := 9) (d := 26) (v := undef) (by kernel_rfl) rfl rfl (by omega) (by kernel_rfl) (by kernel_rfl) (fun c a w h => h) (yieldsIf_skip (by first | rfl | kernel_rfl)) hS ?_
            simp only [List.setIfInBounds_toArray, List.set_cons_succ, List.set_cons_zero]
            refine headsT_takeD (i := 10) (d := 27) (v := undef) (by kernel_rfl) rfl rfl (by omega) (by kernel_rfl) (by kernel_rfl) (fun c a w h => h) (yieldsIf_skip (by first | rfl | kernel_rfl)) hS ?_
            simp only [List.setIfInBounds_toArray, List.set_cons_succ, List.set_cons_zero]
            refine headsT_takeD (i := 11) (d := 28) (v := undef) (by kernel_rfl) rfl rfl (by omega) (by kernel_rfl) (by kernel_rfl) (fun c a w h => h) (yieldsIf_skip (by first | rfl | kernel_rfl)) hS ?_
            simp only [List.setIfInBounds_toArray, List.set_cons_succ, List.set_cons_zero]
            refine headsT_tail (by kernel_rfl) ?_
            simp only [List.drop]
            go_wp2_with fail
            refine (clone8 _ _ (trimL c l) HQ.out.1 (Nat.le_trans HQ.out.2.1 (by decide))).mono ?_
            rintro e Wz ⟨u', rfl, hO, hBz⟩
            have hBt := HB.out.trans ((HQ.out.2.2.trans (hBz.mono HQ.out.2.2.size)).mono HB.out.size)
            have hOt := hO.mono (Nat.le_trans HB.out.size HQ.out.2.2.size)
            clear HQ hO hBz
            go_wp2_with fail
            go_ret
            exact ⟨_, rfl, hOt, hBt⟩
          · have hn := hrd.len
            have hn2 : n = ys.length + 1 := by rw [hn, hl0]; simp
            obtain ⟨b, o, rfl, -, hnk, hat, hblt⟩ := hrd.nonempty (by omega)
            obtain ⟨m, hm⟩ : ∃ m, m = ys.length := ⟨_, rfl⟩
            have hy : wr.cell? ⟨b, o + m, none⟩ = some (.int .u8 (y.toNat : Int)) := by
              rw [hat m (by rw [hl0, hm]; simp), hl0, hm, List.getElem?_append_right (Nat.le_refl _)]; simp; rfl
            have HC : Hid (∀ Z, Below wr.heap.size wr Z → Row oV Z w.heap.size 34 (clL c) ∧ Z.cell? ⟨b, o + m, none⟩ = some (.int .u8 (y.toNat : Int))) := Lib.hid fun Z hZ => ⟨hwr.below hZ hwl, (hZ.cell (p := ⟨b, o + m, none⟩) hblt).trans hy⟩
            have hn0 : (0 : Int) < (n : Int) := by omega
            have hnm : (n : Int) - 1 = (m : Int) := by omega
            have hmn : (m : Int) < (n : Int) := by omega
            have hnp : 0 < n := by omega
            have hnz : n ≠ 0 := by omega
            have hwm := wI' (m : Int) (by omega) (by omega)
            have hn4 : (n : Int) ≤ 4096 := by omega
            have hmk : m ≤ k := by omega
            have HN : Hid (n = m + 1 ∧ m = ys.length ∧ l2 = ys ++ [y]) := Lib.hid ⟨by omega, hm, hl0⟩
            clear hrd hl2 hdw hb hwr hn hat hy hn2 hm hl0
            go_wp2_with fail
            refine region_headsT (S := fun Z => Below wr.heap.size wr Z) 12 rfl (by kernel_rfl) (Below.refl _ _).drew fun hS => ?_
            refine headsT_takeD (i := 0) (d := 17) (v := .slice (some ⟨b, o, none⟩) n k) (by kernel_rfl) rfl rfl (by omega) (by kernel_rfl) (by kernel_rfl) (fun c a w h => h) (yieldsIf_op rfl (fun w => by first | rfl | kernel_rfl | (go_simp; done))) hS ?_
            simp only [List.setIfInBounds_toArray, List.set_cons_succ, List.set_cons_zero]
            refine headsT_takeD (i := 1) (d := 18) (v := .int .i64 n) (by kernel_rfl) rfl rfl (by omega) (by kernel_rfl) (by kernel_rfl) (fun c a w h => h) (yieldsIf_op rfl (fun w => by first | rfl | kernel_rfl | (go_simp; done))) hS ?_
            simp only [List.setIfInBounds_toArray, List.set_cons_succ, List.set_cons_zero]
            refine headsT_takeD (i := 2) (d := 19) (v := .bool true) (by kernel_rfl) rfl rfl (by omega) (by kernel_rfl) (by kernel_rfl) (fun c a w h => h) (yieldsIf_op rfl (fun w => by go_simp)) hS ?_
            simp only [List.setIfInBounds_toArray, List.set_cons_succ, List.set_cons_zero]
            refine headsT_takeD (i := 3) (d := 20) (v := .bool true) (by kernel_rfl) rfl rfl (by omega) (by kernel_rfl) (by kernel_rfl) (fun c a w h => h) (yieldsIf_op rfl (fun w => by first | rfl | kernel_rfl | (go_simp; done))) hS ?_
            simp only [List.setIfInBounds_toArray, List.set_cons_succ, List.set_cons_zero]
            refine headsT_takeD (i := 4) (d := 21) (v := .agg CC) (by kernel_rfl) rfl rfl (by omega) (by kernel_rfl) (by kernel_rfl) (fun c a w h => h) (yieldsIf_load (f := oV) (l := clL c) aggCl (.tmp 2) rfl w.heap.size 0 rfl (fun W' h => (HC.out W' h).1.at) HCC.out rfl) hS ?_
            simp only [List.setIfInBounds_toArray, List.set_cons_succ, List.set_cons_zero]
            refine headsT_takeD (i := 5) (d := 22) (v := .slice (some ⟨b, o, none⟩) n k) (by kernel_rfl) rfl rfl (by omega) (by kernel_rfl) (by kernel_rfl) (fun c a w h => h) (yieldsIf_op rfl (fun w => by first | rfl | kernel_rfl | (go_simp; done))) hS ?_
            simp only [List.setIfInBounds_toArray, List.set_cons_succ, List.set_cons_zero]
            refine headsT_takeD (i := 6) (d := 23) (v := .slice (some ⟨b, o, none⟩) n k) (by kernel_rfl) rfl rfl (by omega) (by kernel_rfl) (by kernel_rfl) (fun c a w h => h) (yieldsIf_op rfl (fun w => by first | rfl | kernel_rfl | (go_simp; done))) hS ?_
            simp only [List.setIfInBounds_toArray, List.set_cons_succ, List.set_cons_zero]
            refine headsT_takeD (i := 7) (d := 24) (v := .int .i64 n) (by kernel_rfl) rfl rfl (by omega) (by kernel_rfl) (by kernel_rfl) (fun c a w h => h) (yieldsIf_op rfl (fun w => by first | rfl | kernel_rfl | (go_simp; done))) hS ?_
            simp only [List.setIfInBounds_toArray, List.set_cons_succ, List.set_cons_zero]
            refine headsT_takeD (i := 8) (d := 25) (v := .int .i64 (m : Int)) (by kernel_rfl) rfl rfl (by omega) (by kernel_rfl) (by kernel_rfl) (fun c a w h => h) (yieldsIf_op rfl (fun w => by go_simp)) hS ?_
            simp only [List.setIfInBounds_toArray, List.set_cons_succ, List.set_cons_zero]
            refine headsT_takeD (i := 9) (d := 26) (v := .pointer (some ⟨b, o + m, none⟩)) (by kernel_rfl) rfl rfl (by omega) (by kernel_rfl) (by kernel_rfl) (fun c a w h => h) (yieldsIf_op rfl (fun w => by go_simp)) hS ?_
            simp only [List.setIfInBounds_toArray, List.set_cons_succ, List.set_cons_zero]
            refine headsT_takeD (i := 10) (d := 27) (v := .int .u8 (y.toNat : Int)) (by kernel_rfl) rfl rfl (by omega) (by kernel_rfl) (by kernel_rfl) (fun c a w h => h) (.inl ⟨by first | rfl | kernel_rfl, fun W' h => by have q0 := (HC.out W' h).2; go_simp⟩) hS ?_
            simp only [List.setIfInBounds_toArray, List.set_cons_succ, List.set_cons_zero]
            refine headsT_ready (rs := [11]) (by kernel_rfl) (by simp) (AllReadyT.cons (by omega) rfl (fun K' hK => ?_) AllReadyT.nil)
            refine callD (d := 28) (g := 86) (args := #[.agg CC, .int .u8 (y.toNat : Int)]) rfl (by first | rfl | kernel_rfl) (by first | kernel_rfl | (simp [execOp, resolve, invoke, Act.eval]) | go_simp) ?_
            rw [HCA.out]
            refine (clHas _ c y).mono ?_
            rintro e Wb ⟨rfl, hBb⟩
            rw [← HCA.out]
            replace hS := hS.trans (hBb.mono hS.size)
            refine ⟨_, rfl, hK.out _ _ hS fun _ => ?_⟩
            clear hK hBb
            simp only [List.setIfInBounds_toArray, List.set_cons_succ, List.set_cons_zero]
            refine headsT_tail (by kernel_rfl) ?_
            simp only [List.drop]
            obtain ⟨p', k', Hs⟩ : ∃ p' k', Hid (sliced (some ⟨b, o, none⟩) 0 m k 1 = .slice p' m k') := ⟨_, _, Lib.hid rfl⟩
            cases hh : c.has y
            · have HQ : Hid (Rd u8V Wb (.slice (some ⟨b, o, none⟩) n k) (trimL c l) ∧ (trimL c l).length ≤ 4096 ∧ Below W.heap.size W Wb) := Lib.hid (by
                obtain ⟨h1, h2, h3, h4⟩ := HH.out
                have ht : trimL c l = l2 := by
                  unfold trimL
                  rw [← h3, HN.out.2.2, List.reverse_append, List.reverse_singleton, List.singleton_append, List.dropWhile_cons_of_neg (by simpa using hh)]; simp
                rw [ht]
                exact ⟨h1.below hS, h2, h4.trans (hS.mono hbs)⟩)
              clear hh HC Hs HN hn0 hnp hnz hwm hnm hmn hn4 hmk hnk hblt HH
              go_wp2_with fail
              refine (clone8 _ _ (trimL c l) HQ.out.1 (Nat.le_trans HQ.out.2.1 (by decide))).mono ?_
              rintro e Wz ⟨u', rfl, hO, hBz⟩
              have hBt := HB.out.trans ((HQ.out.2.2.trans (hBz.mono HQ.out.2.2.size)).mono HB.out.size)
              have hOt := hO.mono (Nat.le_trans HB.out.size HQ.out.2.2.size)
              clear HQ hO hBz
              go_wp2_with fail
              go_ret
              exact ⟨_, rfl, hOt, hBt⟩
            · go_wp2_with (first
                | ((with_reducible refine slice_hiV (.tmp 30) (.tmp 33) ?_ ?_ underB sizeB (some ⟨b, o, none⟩) n k m ?_ ?_ hmk _ Hs.out ?_); rfl; rfl; rfl; (first | rfl | exact congrArg (Value.int .i64) hnm)))
              obtain ⟨h1, h2, h3, h4⟩ := HH.out
              have hsl := h1.slc 0 m (Nat.zero_le _) (by omega)
              rw [Hs.out] at hsl
              have hys : (l2.drop 0).take (m - 0) = ys := by rw [HN.out.2.2, HN.out.2.1]; simp
              rw [hys] at hsl
              refine ⟨⟨p', m, k', ys, rfl, hsl.below hS, by rw [HN.out.2.2] at h2; simp at h2; omega, ?_, h4.trans (hS.mono hbs)⟩, by have := HN.out.1; simp only [sliceLen]; omega⟩
              rw [← h3, HN.out.2.2, List.reverse_append, List.reverse_singleton, List.singleton_append, List.dropWhile_cons_of_pos hh]
      · go_wp2_with (first
          | ((with_reducible refine slice_low1 (.tmp 15) ?_ ?_ underB sizeB (some ⟨b, o, none⟩) n k ?_ hn1 _ Hs.out ?_); rfl; rfl; rfl))
        obtain ⟨h1, h2, h3, h4⟩ := HH.out
        have hsl := h1.slc 1 n hn1 (Nat.le_refl _)
        rw [Hs.out] at hsl
        have hys : ((y :: ys).drop 1).take (n - 1) = ys := by rw [HN.out]; simp
        rw [hys] at hsl
        exact ⟨⟨p', m, k', ys, rfl, hsl.below hS, by simp at h2; omega, by rw [← h3, List.dropWhile_cons_of_pos hh], h4.trans (hS.mono hbs)⟩, by have := Hm.out; simp only [sliceLen]; omega⟩
end Go.Proofs.YtllomcmhkocdfaaGreatDoor

/- The interpreter's effects: copy, cut, trim, constant. -/
namespace Go.Proofs.YtllomcmhkocdfaaGreatDoor
open Go Go.RowKit Mem
set_option maxRecDepth 100000

/-- what an effect leaves of an execution -/
structure Nxt (B0 : Nat) (w w' : World) (K : XK) (V V' : XV) (x' : Ex) : Prop where
  xw : XW B0 w' K V' x'
  upd : Upd (Wr K V) w w'
  wr : ∀ g, Wr K V' g → Wr K V g ∨ w.heap.size ≤ g
theorem Nxt.setS {B0 : Nat} {w W : World} {K : XK} {V : XV} {x : Ex} (h : XW B0 W K V x) (hb : Below w.heap.size w W) (i : Nat) (u : OC) (l : List UInt8) (hd : Dat W K V u l) :
    Nxt B0 w (W.setCell ⟨K.mb, i, none⟩ u.1) K V { V with us := V.us.set i u } { x with s := x.s.set i l } :=
  ⟨h.setS i u l hd, (Upd.of_below _ hb (Nat.le_refl _)).set (.inl (.inr (.inl rfl))) i _, fun _ e => .inl e⟩
theorem XW.dat {B0 : Nat} {w : World} {K : XK} {V : XV} {x : Ex} (h : XW B0 w K V x) (a : Nat) (ha : a < 12) : Dat w K V (V.us.getD a on) (x.s.getD a []) := forall2_get on [] a h.rd (by rw [h.nus]; exact ha)
theorem XW.cellX {B0 : Nat} {w : World} {K : XK} {V : XV} {x : Ex} (h : XW B0 w K V x) {a : Nat} (ha : a < 12) : w.cell? ⟨K.mb, a, none⟩ = some (V.us.getD a on).1 := by
  rw [h.str.cell on a (by rw [h.nus]; exact ha), List.getD_eq_getElem?_getD]; rfl
theorem XW.cellS {B0 : Nat} {w : World} {K : XK} {V : XV} {x : Ex} (h : XW B0 w K V x) {a : Nat} (ha : a < 12) {p : Option Addr} {n k : Nat} (hu : (V.us.getD a on).1 = .slice p n k) : w.cell? ⟨K.mb, a, none⟩ = some (.slice p n k) := by rw [h.cellX ha, hu]

set_option maxHeartbeats 8000000 in
theorem iCopy {B0 : Nat} {w : World} {K : XK} {V : XV} {x : Ex} (a b : Nat) (ha : a < 12) (hb : b < 12) (h : XW B0 w K V x) (C : Array Value) (HC : Hid (C = ((stCopy a b).cs.map oV).toArray)) :
    Calls Tryz.prog 33 #[.pointer (some ⟨K.xb, 0, none⟩), .agg C] w fun e w' => e = .returned (.bool true) ∧ Nxt B0 w w' K V { V with us := V.us.set b (V.us.getD a on) } { x with s := x.s.set b (x.s.getD a []) } := by
  obtain ⟨pa, na, ka, Ha, La⟩ : ∃ p n k, Hid ((V.us.getD a on).1 = .slice p n k) ∧ Hid (n = (x.s.getD a []).length) := by
    obtain ⟨p, k, hu⟩ := (h.dat a ha).1.slice
    exact ⟨p, _, k, Lib.hid hu, Lib.hid rfl⟩
  go_enter Tryz.func33, Tryz.ntmps33
  go_upto_region 1 with (fail)
  obtain ⟨W, hW, hR, hB⟩ : ∃ W, w.alloc (.cells C 45) = W ∧ Row oV W w.heap.size 45 (stCopy a b).cs ∧ Below w.heap.size w W := ⟨_, rfl, by rw [HC.out]; exact Row.new _ _ rfl, (Below.refl _ _).alloc (Nat.le_refl _) _⟩
  rw [hW]
  clear hW
  have HK := Lib.hid (h.keep hB)
  have HB := Lib.hid hB
  have HF : Hid (∀ Z, Below W.heap.size W Z → Z.cell? ⟨K.xb, 2, none⟩ = some (.slice (some ⟨K.mb, 0, none⟩) 12 12) ∧ Z.cell? ⟨K.xb, 3, none⟩ = some (.slice (some ⟨K.nb, 0, none⟩) 4 4) ∧ Z.cell? ⟨w.heap.size, 1, none⟩ = some (.int .i64 a) ∧ Z.cell? ⟨w.heap.size, 2, none⟩ = some (.int .i64 b) ∧ Z.cell? ⟨K.mb, a, none⟩ = some (.slice pa na ka) ∧ Z.cell? ⟨K.mb, b, none⟩ = some (V.us.getD b on).1 ∧ Z.frozen? ⟨K.mb, b, none⟩ = false) := Lib.hid fun Z hZ => by
    have hh := HK.out.keep hZ
    have hr := hR.below hZ hR.lt
    exact ⟨by rw [hh.row.cell?]; rfl, by rw [hh.row.cell?]; rfl, by rw [hr.cell?]; rfl, by rw [hr.cell?]; rfl, hh.cellS ha Ha.out, hh.cellX hb, hh.str.frozen b⟩
  have hlx := HK.out.row.lt
  have hlr := hR.lt
  clear hR hB h
  have hai : (a : Int) < 12 := by omega
  have hbi : (b : Int) < 12 := by omega
  refine region_headsT (S := fun Z => Below W.heap.size W Z) 14 rfl (by kernel_rfl) (Below.refl _ _).drew fun hS => ?_
  refine headsT_takeD (i := 0) (d := 5) (v := .pointer (some ⟨K.xb, 0, none⟩)) (by kernel_rfl) rfl rfl (by omega) (by kernel_rfl) (by kernel_rfl) (fun c a w h => h) (yieldsIf_op rfl (fun w => by first | rfl | kernel_rfl | (go_simp; done))) hS ?_
  simp only [List.setIfInBounds_toArray, List.set_cons_succ, List.set_cons_zero]
  refine headsT_takeD (i := 1) (d := 6) (v := .pointer (some ⟨K.xb, 0, none⟩)) (by kernel_rfl) rfl rfl (by omega) (by kernel_rfl) (by kernel_rfl) (fun c a w h => h) (yieldsIf_op rfl (fun w => by first | rfl | kernel_rfl | (go_simp; done))) hS ?_
  simp only [List.setIfInBounds_toArray, List.set_cons_succ, List.set_cons_zero]
  refine headsT_takeD (i := 2) (d := 7) (v := .pointer (some ⟨K.xb, 2, none⟩)) (by kernel_rfl) rfl rfl (by omega) (by kernel_rfl) (by kernel_rfl) (fun c a w h => h) (yieldsIf_op rfl (fun w => by first | rfl | kernel_rfl | (go_simp; done))) hS ?_
  simp only [List.setIfInBounds_toArray, List.set_cons_succ, List.set_cons_zero]
  refine headsT_takeD (i := 3) (d := 8) (v := .slice (some ⟨K.mb, 0, none⟩) 12 12) (by kernel_rfl) rfl rfl (by omega) (by kernel_rfl) (by kernel_rfl) (fun c a w h => h) (.inl ⟨by first | rfl | kernel_rfl, fun W' h => by have q0 := (HF.out W' h).1; go_simp⟩) hS ?_
  simp only [List.setIfInBounds_toArray, List.set_cons_succ, List.set_cons_zero]
  refine headsT_takeD (i := 4) (d := 9) (v := .pointer (some ⟨w.heap.size, 2, none⟩)) (by kernel_rfl) rfl rfl (by omega) (by kernel_rfl) (by kernel_rfl) (fun c a w h => h) (yieldsIf_op rfl (fun w => by first | rfl | kernel_rfl | (go_simp; done))) hS ?_
  simp only [List.setIfInBounds_toArray, List.set_cons_succ, List.set_cons_zero]
  refine headsT_takeD (i := 5) (d := 10) (v := .int .i64 b) (by kernel_rfl) rfl rfl (by omega) (by kernel_rfl) (by kernel_rfl) (fun c a w h => h) (.inl ⟨by first | rfl | kernel_rfl, fun W' h => by have q0 := (HF.out W' h).2.2.2.1; go_simp⟩) hS ?_
  simp only [List.setIfInBounds_toArray, List.set_cons_succ, List.set_cons_zero]
  refine headsT_takeD (i := 6) (d := 11) (v := .pointer (some ⟨K.xb, 0, none⟩)) (by kernel_rfl) rfl rfl (by omega) (by kernel_rfl) (by kernel_rfl) (fun c a w h => h) (yieldsIf_op rfl (fun w => by first | rfl | kernel_rfl | (go_simp; done))) hS ?_
  simp only [List.setIfInBounds_toArray, List.set_cons_succ, List.set_cons_zero]
  refine headsT_takeD (i := 7) (d := 12) (v := .pointer (some ⟨K.xb, 0, none⟩)) (by kernel_rfl) rfl rfl (by omega) (by kernel_rfl) (by kernel_rfl) (fun c a w h => h) (yieldsIf_op rfl (fun w => by first | rfl | kernel_rfl | (go_simp; done))) hS ?_
  simp only [List.setIfInBounds_toArray, List.set_cons_succ, List.set_cons_zero]
  refine headsT_takeD (i := 8) (d := 13) (v := .pointer (some ⟨K.xb, 2, none⟩)) (by kernel_rfl) rfl rfl (by omega) (by kernel_rfl) (by kernel_rfl) (fun c a w h => h) (yieldsIf_op rfl (fun w => by first | rfl | kernel_rfl | (go_simp; done))) hS ?_
  simp only [List.setIfInBounds_toArray, List.set_cons_succ, List.set_cons_zero]
  refine headsT_takeD (i := 9) (d := 14) (v := .slice (some ⟨K.mb, 0, none⟩) 12 12) (by kernel_rfl) rfl rfl (by omega) (by kernel_rfl) (by kernel_rfl) (fun c a w h => h) (.inl ⟨by first | rfl | kernel_rfl, fun W' h => by have q0 := (HF.out W' h).1; go_simp⟩) hS ?_
  simp only [List.setIfInBounds_toArray, List.set_cons_succ, List.set_cons_zero]
  refine headsT_takeD (i := 10) (d := 15) (v := .pointer (some ⟨w.heap.size, 1, none⟩)) (by kernel_rfl) rfl rfl (by omega) (by kernel_rfl) (by kernel_rfl) (fun c a w h => h) (yieldsIf_op rfl (fun w => by first | rfl | kernel_rfl | (go_simp; done))) hS ?_
  simp only [List.setIfInBounds_toArray, List.set_cons_succ, List.set_cons_zero]
  refine headsT_takeD (i := 11) (d := 16) (v := .int .i64 a) (by kernel_rfl) rfl rfl (by omega) (by kernel_rfl) (by kernel_rfl) (fun c a w h => h) (.inl ⟨by first | rfl | kernel_rfl, fun W' h => by have q0 := (HF.out W' h).2.2.1; go_simp⟩) hS ?_
  simp only [List.setIfInBounds_toArray, List.set_cons_succ, List.set_cons_zero]
  refine headsT_takeD (i := 12) (d := 17) (v := .pointer (some ⟨K.mb, a, none⟩)) (by kernel_rfl) rfl rfl (by omega) (by kernel_rfl) (by kernel_rfl) (fun c a w h => h) (yieldsIf_op rfl (fun w => by go_simp)) hS ?_
  simp only [List.setIfInBounds_toArray, List.set_cons_succ, List.set_cons_zero]
  refine headsT_takeD (i := 13) (d := 18) (v := .slice pa na ka) (by kernel_rfl) rfl rfl (by omega) (by kernel_rfl) (by kernel_rfl) (fun c a w h => h) (.inl ⟨by first | rfl | kernel_rfl, fun W' h => by have q0 := (HF.out W' h).2.2.2.2.1; go_simp⟩) hS ?_
  simp only [List.setIfInBounds_toArray, List.set_cons_succ, List.set_cons_zero]
  refine headsT_tail (by kernel_rfl) ?_
  simp only [List.drop]
  obtain ⟨_, _, _, _, _, eb, fb⟩ := HF.out _ hS
  have hX := HK.out.keep hS
  have hB2 := HB.out.trans (hS.mono HB.out.size)
  clear HF HK HB hS
  go_wp2_with fail
  go_ret
  rw [← Ha.out]
  exact ⟨rfl, Nxt.setS hX hB2 b _ _ (hX.dat a ha)⟩
theorem XW.wrLt {B0 : Nat} {w : World} {K : XK} {V : XV} {x : Ex} (h : XW B0 w K V x) : ∀ g, Wr K V g → g < w.heap.size := by
  rintro g (rfl | rfl | rfl | e | e)
  · exact h.row.lt
  · exact h.str.lt
  · exact h.num.lt
  · exact (World.ownsRow.lt h.fl g e).2
  · exact (World.ownsRow.lt h.tr g e).2
/-- a slice of its own is a string of the execution -/
theorem XW.datOwn {B0 : Nat} {w w' : World} {K : XK} {V : XV} {x : Ex} (h : XW B0 w K V x) {base : Nat} {u : OC} {l : List UInt8} (ho : Mem.Own u8V w' base 5 u.1 l) (hb : w.heap.size ≤ base) (hl : l.length ≤ 4096) : Dat w' K V u l :=
  ⟨ho.rd, hl, fun _ g hg hw => by have h1 := (ho.lt g hg).1; have h2 := h.wrLt g hw; omega, fun ad n c he => by
    rcases ho.2 with ⟨h0, _⟩ | ⟨g, cap, cur, h0, _⟩
    · rw [h0] at he; cases he
    · rw [h0] at he; injection he with e1; injection e1 with e1; exact ⟨g, 0, e1.symm⟩⟩

theorem dropWhile_le {α : Type} (p : α → Bool) : ∀ l : List α, (l.dropWhile p).length ≤ l.length
  | [] => Nat.le_refl _
  | x :: l => by rw [List.dropWhile_cons]; split; exact Nat.le_succ_of_le (dropWhile_le p l); exact Nat.le_refl _
theorem trimL_le (c : Cl) (l : List UInt8) : (trimL c l).length ≤ l.length := by unfold trimL; rw [List.length_reverse]; exact Nat.le_trans (dropWhile_le _ _) (by rw [List.length_reverse]; exact dropWhile_le _ _)
set_option maxHeartbeats 8000000 in
theorem iTrim {B0 : Nat} {w : World} {K : XK} {V : XV} {x : Ex} (a b : Nat) (c : Cl) (ha : a < 12) (hb : b < 12) (h : XW B0 w K V x) (C : Array Value) (HC : Hid (C = ((stTrim a b (X c.a) (X c.b) (X c.c) (X c.d)).cs.map oV).toArray)) :
    Calls Tryz.prog 39 #[.pointer (some ⟨K.xb, 0, none⟩), .agg C] w fun e w' => e = .returned (.bool true) ∧ ∃ u, Nxt B0 w w' K V { V with us := V.us.set b u } { x with s := x.s.set b (trimL c (x.s.getD a [])) } := by
  obtain ⟨pa, na, ka, Ha, La⟩ : ∃ p n k, Hid ((V.us.getD a on).1 = .slice p n k) ∧ Hid (n = (x.s.getD a []).length) := by
    obtain ⟨p, k, hu⟩ := (h.dat a ha).1.slice
    exact ⟨p, _, k, Lib.hid hu, Lib.hid rfl⟩
  have HDA := Lib.hid (h.dat a ha)
  have HLL : Hid ((trimL c (x.s.getD a [])).length ≤ 4096) := Lib.hid (Nat.le_trans (trimL_le c _) HDA.out.2.1)
  obtain ⟨CC, HCC, HCA⟩ : ∃ CC, Hid (CC = ((clL c).map oV).toArray) ∧ Hid (CC = clA c) := ⟨_, Lib.hid rfl, Lib.hid rfl⟩
  go_enter Tryz.func39, Tryz.ntmps39
  go_upto_region 1 with (fail)
  obtain ⟨W, hW, hR, hB⟩ : ∃ W, w.alloc (.cells C 45) = W ∧ Row oV W w.heap.size 45 (stTrim a b (X c.a) (X c.b) (X c.c) (X c.d)).cs ∧ Below w.heap.size w W := ⟨_, rfl, by rw [HC.out]; exact Row.new _ _ rfl, (Below.refl _ _).alloc (Nat.le_refl _) _⟩
  rw [hW]
  clear hW
  have HK := Lib.hid (h.keep hB)
  have HB := Lib.hid hB
  have HF : Hid (∀ Z, Below W.heap.size W Z → Z.cell? ⟨K.xb, 2, none⟩ = some (.slice (some ⟨K.mb, 0, none⟩) 12 12) ∧ Z.cell? ⟨K.xb, 3, none⟩ = some (.slice (some ⟨K.nb, 0, none⟩) 4 4) ∧ Z.cell? ⟨w.heap.size, 1, none⟩ = some (.int .i64 a) ∧ Z.cell? ⟨w.heap.size, 2, none⟩ = some (.int .i64 b) ∧ Z.cell? ⟨K.mb, a, none⟩ = some (.slice pa na ka) ∧ Z.cell? ⟨K.mb, b, none⟩ = some (V.us.getD b on).1 ∧ Z.frozen? ⟨K.mb, b, none⟩ = false ∧ At oV Z w.heap.size 12 (clL c)) := Lib.hid fun Z hZ => by
    have hh := HK.out.keep hZ
    have hr := hR.below hZ hR.lt
    exact ⟨by rw [hh.row.cell?]; rfl, by rw [hh.row.cell?]; rfl, by rw [hr.cell?]; rfl, by rw [hr.cell?]; rfl, hh.cellS ha Ha.out, hh.cellX hb, hh.str.frozen b, fun i hi => by rw [hr.cell?]; match i, hi with | 0, _ => rfl | 1, _ => rfl | 2, _ => rfl | 3, _ => rfl⟩
  have hlx := HK.out.row.lt
  have hlr := hR.lt
  clear hR hB h
  have hai : (a : Int) < 12 := by omega
  have hbi : (b : Int) < 12 := by omega
  refine region_headsT (S := fun Z => Below W.heap.size W Z) 17 rfl (by kernel_rfl) (Below.refl _ _).drew fun hS => ?_
  refine headsT_takeD (i := 0) (d := 5) (v := .pointer (some ⟨K.xb, 0, none⟩)) (by kernel_rfl) rfl rfl (by omega) (by kernel_rfl) (by kernel_rfl) (fun c a w h => h) (yieldsIf_op rfl (fun w => by first | rfl | kernel_rfl | (go_simp; done))) hS ?_
  simp only [List.setIfInBounds_toArray, List.set_cons_succ, List.set_cons_zero]
  refine headsT_takeD (i := 1) (d := 6) (v := .pointer (some ⟨K.xb, 0, none⟩)) (by kernel_rfl) rfl rfl (by omega) (by kernel_rfl) (by kernel_rfl) (fun c a w h => h) (yieldsIf_op rfl (fun w => by first | rfl | kernel_rfl | (go_simp; done))) hS ?_
  simp only [List.setIfInBounds_toArray, List.set_cons_succ, List.set_cons_zero]
  refine headsT_takeD (i := 2) (d := 7) (v := .pointer (some ⟨K.xb, 2, none⟩)) (by kernel_rfl) rfl rfl (by omega) (by kernel_rfl) (by kernel_rfl) (fun c a w h => h) (yieldsIf_op rfl (fun w => by first | rfl | kernel_rfl | (go_simp; done))) hS ?_
  simp only [List.setIfInBounds_toArray, List.set_cons_succ, List.set_cons_zero]
  refine headsT_takeD (i := 3) (d := 8) (v := .slice (some ⟨K.mb, 0, none⟩) 12 12) (by kernel_rfl) rfl rfl (by omega) (by kernel_rfl) (by kernel_rfl) (fun c a w h => h) (.inl ⟨by first | rfl | kernel_rfl, fun W' h => by have q0 := (HF.out W' h).1; go_simp⟩) hS ?_
  simp only [List.setIfInBounds_toArray, List.set_cons_succ, List.set_cons_zero]
  refine headsT_takeD (i := 4) (d := 9) (v := .pointer (some ⟨w.heap.size, 2, none⟩)) (by kernel_rfl) rfl rfl (by omega) (by kernel_rfl) (by kernel_rfl) (fun c a w h => h) (yieldsIf_op rfl (fun w => by first | rfl | kernel_rfl | (go_simp; done))) hS ?_
  simp only [List.setIfInBounds_toArray, List.set_cons_succ, List.set_cons_zero]
  refine headsT_takeD (i := 5) (d := 10) (v := .int .i64 b) (by kernel_rfl) rfl rfl (by omega) (by kernel_rfl) (by kernel_rfl) (fun c a w h => h) (.inl ⟨by first | rfl | kernel_rfl, fun W' h => by have q0 := (HF.out W' h).2.2.2.1; go_simp⟩) hS ?_
  simp only [List.setIfInBounds_toArray, List.set_cons_succ, List.set_cons_zero]
  refine headsT_takeD (i := 6) (d := 11) (v := .pointer (some ⟨w.heap.size, 12, none⟩)) (by kernel_rfl) rfl rfl (by omega) (by kernel_rfl) (by kernel_rfl) (fun c a w h => h) (yieldsIf_op rfl (fun w => by first | rfl | kernel_rfl | (go_simp; done))) hS ?_
  simp only [List.setIfInBounds_toArray, List.set_cons_succ, List.set_cons_zero]
  refine headsT_takeD (i := 7) (d := 12) (v := .agg CC) (by kernel_rfl) rfl rfl (by omega) (by kernel_rfl) (by kernel_rfl) (fun c a w h => h) (yieldsIf_load (f := oV) (l := clL c) aggCl (.tmp 11) rfl w.heap.size 12 rfl (fun W' h => (HF.out W' h).2.2.2.2.2.2.2) HCC.out rfl) hS ?_
  simp only [List.setIfInBounds_toArray, List.set_cons_succ, List.set_cons_zero]
  refine headsT_takeD (i := 8) (d := 13) (v := .pointer (some ⟨K.xb, 0, none⟩)) (by kernel_rfl) rfl rfl (by omega) (by kernel_rfl) (by kernel_rfl) (fun c a w h => h) (yieldsIf_op rfl (fun w => by first | rfl | kernel_rfl | (go_simp; done))) hS ?_
  simp only [List.setIfInBounds_toArray, List.set_cons_succ, List.set_cons_zero]
  refine headsT_takeD (i := 9) (d := 14) (v := .pointer (some ⟨K.xb, 0, none⟩)) (by kernel_rfl) rfl rfl (by omega) (by kernel_rfl) (by kernel_rfl) (fun c a w h => h) (yieldsIf_op rfl (fun w => by first | rfl | kernel_rfl | (go_simp; done))) hS ?_
  simp only [List.setIfInBounds_toArray, List.set_cons_succ, List.set_cons_zero]
  refine headsT_takeD (i := 10) (d := 15) (v := .pointer (some ⟨K.xb, 2, none⟩)) (by kernel_rfl) rfl rfl (by omega) (by kernel_rfl) (by kernel_rfl) (fun c a w h => h) (yieldsIf_op rfl (fun w => by first | rfl | kernel_rfl | (go_simp; done))) hS ?_
  simp only [List.setIfInBounds_toArray, List.set_cons_succ, List.set_cons_zero]
  refine headsT_takeD (i := 11) (d := 16) (v := .slice (some ⟨K.mb, 0, none⟩) 12 12) (by kernel_rfl) rfl rfl (by omega) (by kernel_rfl) (by kernel_rfl) (fun c a w h => h) (.inl ⟨by first | rfl | kernel_rfl, fun W' h => by have q0 := (HF.out W' h).1; go_simp⟩) hS ?_
  simp only [List.setIfInBounds_toArray, List.set_cons_succ, List.set_cons_zero]
  refine headsT_takeD (i := 12) (d := 17) (v := .pointer (some ⟨w.heap.size, 1, none⟩)) (by kernel_rfl) rfl rfl (by omega) (by kernel_rfl) (by kernel_rfl) (fun c a w h => h) (yieldsIf_op rfl (fun w => by first | rfl | kernel_rfl | (go_simp; done))) hS ?_
  simp only [List.setIfInBounds_toArray, List.set_cons_succ, List.set_cons_zero]
  refine headsT_takeD (i := 13) (d := 18) (v := .int .i64 a) (by kernel_rfl) rfl rfl (by omega) (by kernel_rfl) (by kernel_rfl) (fun c a w h => h) (.inl ⟨by first | rfl | kernel_rfl, fun W' h => by have q0 := (HF.out W' h).2.2.1; go_simp⟩) hS ?_
  simp only [List.setIfInBounds_toArray, List.set_cons_succ, List.set_cons_zero]
  refine headsT_takeD (i := 14) (d := 19) (v := .pointer (some ⟨K.mb, a, none⟩)) (by kernel_rfl) rfl rfl (by omega) (by kernel_rfl) (by kernel_rfl) (fun c a w h => h) (yieldsIf_op rfl (fun w => by go_simp)) hS ?_
  simp only [List.setIfInBounds_toArray, List.set_cons_succ, List.set_cons_zero]
  refine headsT_takeD (i := 15) (d := 20) (v := .slice pa na ka) (by kernel_rfl) rfl rfl (by omega) (by kernel_rfl) (by kernel_rfl) (fun c a w h => h) (.inl ⟨by first | rfl | kernel_rfl, fun W' h => by have q0 := (HF.out W' h).2.2.2.2.1; go_simp⟩) hS ?_
  simp only [List.setIfInBounds_toArray, List.set_cons_succ, List.set_cons_zero]
  refine headsT_ready (rs := [16]) (by kernel_rfl) (by simp) (AllReadyT.cons (by omega) rfl (fun K' hK => ?_) AllReadyT.nil)
  refine callD (d := 21) (g := 55) (args := #[.agg CC, .slice pa na ka]) rfl rfl (by first | kernel_rfl | (simp [execOp, resolve, invoke, Act.eval]) | go_simp) ?_
  rw [HCA.out, ← Ha.out]
  refine (rTrim _ c _ (x.s.getD a []) ((HDA.out.1.below HB.out).below hS) HDA.out.2.1).mono ?_
  rintro e Wc ⟨u', rfl, hO, hBc⟩
  rw [← HCA.out, Ha.out]
  obtain ⟨pc, kc, rfl⟩ := hO.slice
  obtain ⟨nc, Hnc⟩ : ∃ n, Hid ((trimL c (x.s.getD a [])).length = n) := ⟨_, Lib.hid rfl⟩
  rw [Hnc.out] at hO ⊢
  have hXc := HK.out.keep hS
  have hS1 := hS
  replace hS := hS.trans (hBc.mono hS.size)
  refine ⟨_, rfl, hK.out _ _ hS fun _ => ?_⟩
  have hD : Dat Wc K V ⟨.slice pc nc kc, rfl⟩ (trimL c (x.s.getD a [])) := hXc.datOwn hO (Nat.le_refl _) HLL.out
  clear hK hBc hO hS1 hXc
  simp only [List.setIfInBounds_toArray, List.set_cons_succ, List.set_cons_zero]
  refine headsT_tail (by kernel_rfl) ?_
  simp only [List.drop]
  obtain ⟨_, _, _, _, _, eb, fb, _⟩ := HF.out _ hS
  have hX := HK.out.keep hS
  have hB2 := HB.out.trans (hS.mono HB.out.size)
  clear HF HK HB hS
  go_wp2_with fail
  go_ret
  exact ⟨rfl, ⟨.slice pc nc kc, rfl⟩, Nxt.setS hX hB2 b _ _ hD⟩
end Go.Proofs.YtllomcmhkocdfaaGreatDoor

/- The interpreter's appends: the trace and the fields. -/
namespace Go.Proofs.YtllomcmhkocdfaaGreatDoor
open Go Go.RowKit Mem
set_option maxRecDepth 100000

section
variable {α : Type} {f : α → Value} {P : Program} {ops : Array Oper} {rest : List Oper} {o : Oper} {a : Act} {Q : Exit → Act → World → Prop} {w : World} {base : Nat} {e : TypeId} {v : Value} {l : List α}
/-- append of one element: who owns the row then -/
theorem append_who {t : TypeId} {bytes : Nat} (E : Elt P t e bytes) (s x : Operand) (hgd : o.guard = none) (ho : o.op = .call { callee := .builtin .append, args := #[s, x], argTypes := #[t, t] })
    (h1 : ∀ x, (f x).oneCell' = true) (hs : a.eval s = v) (hown : Mem.Own f w base e v l) (y : α) (u : Value) (hu : u = f y) (e1 : TypeId) (hx : a.eval x = .slice (some ⟨w.heap.size, 0, none⟩) 1 1)
    (hn : (l.length + 1) * bytes ≤ 140737488355328) (hn2 : l.length + 1 ≤ 140737488355328) (hbase : base ≤ w.heap.size) (r : List α) (hr : l ++ [y] = r)
    (h : ∀ p cap w', Mem.Own f w' base e (.slice p r.length cap) r → (w.alloc (.cells #[u] e1)).grownBy w' v.ownBlock → (∀ g, (Value.slice p r.length cap).ownBlock = some g → v.ownBlock = some g ∨ w.heap.size + 1 ≤ g) → wpList P ops Q rest (a.put o.dst (.slice p r.length cap)) w') :
    wpList P ops Q (o :: rest) a (w.alloc (.cells #[u] e1)) := by
  subst hu
  have hr' : Row f (w.alloc (.cells #[f y] e1)) w.heap.size e1 [y] := Row.new _ _ rfl
  obtain ⟨p, cap, w', hrun, h2, h3, h4⟩ := run_app (ty := o.type) E h1 (hown.alloc (.cells #[f y] e1)) w.heap.size 0 1 [y] hr'.at hn hn2 (by simp; omega) r hr
  rw [World.size_alloc] at h4
  refine wpList_plain hgd fun K hK => ?_
  have hx' : a.eval x = .slice (some ⟨w.heap.size, 0, none⟩) [y].length 1 := hx
  unfold Oper.wp
  simp only [execOp, ho, resolve, invoke, builtin, Sem.run_bind, Sem.run_pure, Result.andThen_ok, List.map_toArray, List.map_cons, List.map_nil, hs, hx', hrun]
  refine hK _ _ (h p cap w' h2 h3 fun g hg => ?_)
  rcases h4 with h4 | h4
  · exact .inl (h4 ▸ hg)
  · rw [hg] at h4; injection h4 with h4; exact .inr (by omega)
/-- append of one element of two cells -/
theorem append_two {t : TypeId} {i : TypeInfo} {z : Value} {bytes : Nat} {K : Act → World → Prop} (s x : Operand) (ho : o.op = .call { callee := .builtin .append, args := #[s, x], argTypes := #[t, t] })
    (ht : P.underlying t = some (.slice e)) (hi : P.info? e = some i) (hz : i.zero = some z) (hsize : i.size = 2) (hby : i.bytes = bytes) (hzs : z.cells.size = 2)
    (n : Nat) (xs : List Value) (hs : a.eval s = v) (hown : w.ownsRow base e 2 v n xs) (g0 : Nat) (u1 u2 : Value) (hx : a.eval x = .slice (some ⟨g0, 0, none⟩) 1 1) (hc1 : w.cell? ⟨g0, 0, none⟩ = some u1) (hc2 : w.cell? ⟨g0, 1, none⟩ = some u2)
    (h1 : u1.oneCell' = true) (h2 : u2.oneCell' = true) (hn : n + 1 ≤ maxLen) (hbytes : (n + 1) * bytes ≤ 140737488355328) (hbase : base ≤ w.heap.size)
    (h : ∀ v' w', w'.ownsRow base e 2 v' (n + 1) (xs ++ [u1, u2]) → w.grownBy w' v.ownBlock → (∀ g, v'.ownBlock = some g → v.ownBlock = some g ∨ w.heap.size ≤ g) → K (a.put o.dst v') w') : o.wp P a w K Q := by
  obtain ⟨v', w', hrun, h3, h4, _, h5⟩ := run_append_own_at (P := P) w base t o.type e i z 2 bytes ht hi hz hsize hby hzs (by decide) v n xs hown ⟨g0, 0, none⟩ 1 1 [u1, u2] rfl (by
    intro j u hj
    have h2 : ((⟨g0, 0, none⟩ : Addr).add j) = ⟨g0, j, none⟩ := by unfold Addr.add; split <;> simp_all
    rw [h2]
    match j, hj with
    | 0, hj => cases hj; exact hc1
    | 1, hj => cases hj; exact hc2) (by intro u hu; simp only [List.mem_cons, List.not_mem_nil, or_false] at hu; rcases hu with rfl | rfl <;> assumption) hn hbytes hbase
  unfold Oper.wp execOp
  simp only [ho, resolve, invoke, builtin, Sem.run_bind, Sem.run_pure, Result.andThen_ok, List.map_toArray, List.map_cons, List.map_nil, hs, hx, hrun]
  refine h v' w' h3 h4 fun g hg => ?_
  rcases h5 with h5 | h5
  · exact .inl (h5 ▸ hg)
  · rw [hg] at h5; injection h5 with h5; exact .inr (by omega)
end
end Go.Proofs.YtllomcmhkocdfaaGreatDoor
