/- The reference's comparisons of bytes and ints. -/
import Derived.WalkKit
import Derived.Outline
import Derived.Lib.Hide
import Derived.OwnWalk
import Derived.LoopTactic
import Derived.BigQuiet
import Derived.Deep.LoopGhost
import Derived.Deep.DeepMust
import Derived.WalkSmall
import Derived.Laws.IdiomStrings
import Derived.Lib.BufferRead
import Derived.Test.YteglnpanimgelaaGreatDoorOwn
import Derived.Test.YteglnpanimgelaaGreatDoorProg
namespace Go.Proofs.YteglnpanimgelaaGreatDoor
open Go.RowKit Mem
set_option maxRecDepth 100000

namespace Mem
variable {P : Program} {ops : Array Oper} {rest : List Oper} {o : Oper} {a : Act} {Q : Exit → Act → World → Prop} {w : World}
theorem run_convert_rd {src dst e : TypeId} (hs : P.underlying src = some (.slice e)) (he : P.underlying e = some (.int .u8)) (hd : P.underlying dst = some .string) {v : Value} {l : List UInt8} (h : Rd u8V w v l) :
    (convert src dst v).run P w = .ok (.string ⟨l.toArray⟩) w := by
  rcases h with ⟨q, rfl, rfl⟩ | ⟨b, o, cap, rfl, _, ha, _⟩
  · cases q with
    | none => exact Lib.run_convert_nil_bytes w src dst e 0 hs he hd
    | some ad => exact run_convert_bytes_back w src dst e ad 0 [] hs he hd fun j hj => by cases hj
  · refine run_convert_bytes_back w src dst e ⟨b, o, none⟩ cap l hs he hd fun j hj => ?_
    have h2 : ((⟨b, o, none⟩ : Addr).add j) = ⟨b, o + j, none⟩ := by unfold Addr.add; split <;> simp_all
    rw [h2, ha j hj, List.getElem?_eq_getElem hj]
    rfl
theorem convert_rd {src dst e : TypeId} (x : Operand) (hgd : o.guard = none) (ho : o.op = .convert src dst x) (hs : P.underlying src = some (.slice e)) (he : P.underlying e = some (.int .u8)) (hd : P.underlying dst = some .string)
    {v : Value} {l : List UInt8} (hx : a.eval x = v) (hv : Rd u8V w v l) (h : wpList P ops Q rest (a.put o.dst (.string ⟨l.toArray⟩)) w) : wpList P ops Q (o :: rest) a w := by
  refine wpList_plain hgd fun K hK => ?_
  have hrun := run_convert_rd (P := P) hs he hd hv
  unfold Oper.wp
  simp [execOp, ho, hx, hrun, Result.andThen]
  exact hK _ _ h
end Mem

theorem refSameBytes (w : World) (va vb : Value) (x y : List UInt8) (ha : Rd u8V w va x) (hb : Rd u8V w vb y) :
    Calls Tryz.prog 12 #[va, vb] w fun e w' => e = .returned (.bool (x == y)) ∧ w' = w := by
  obtain ⟨pa, ca, rfl⟩ := ha.slice
  obtain ⟨pb, cb, rfl⟩ := hb.slice
  go_enter Tryz.func12, Tryz.ntmps12
  go_wp2_with (first
    | ((with_reducible refine convert_rd (.tmp 5) ?_ ?_ Tryz.underlying36 Tryz.underlying5 Tryz.underlying9 ?_ ha ?_); rfl; rfl; rfl)
    | ((with_reducible refine convert_rd (.tmp 7) ?_ ?_ Tryz.underlying36 Tryz.underlying5 Tryz.underlying9 ?_ hb ?_); rfl; rfl; rfl))
  go_ret
  exact ⟨rfl, rfl⟩

def iV (n : Int) : Value := .int .i64 n
theorem Rd.elem {α : Type} {f : α → Value} {w : World} {b o n c : Nat} {l : List α} (h : Rd f w (.slice (some ⟨b, o, none⟩) n c) l) (d : α) (i : Nat) (hi : i < l.length) : w.cell? ⟨b, o + i, none⟩ = some (f (l[i]?.getD d)) := by
  rcases h with ⟨_, _, rfl⟩ | ⟨b', o', cap, h1, _, ha, _⟩
  · simp at hi
  · cases h1; exact ha.cell d i hi
theorem beq_take_succ (x y : List Int) (k : Nat) (hx : k < x.length) (hy : k < y.length) (h : x.take k = y.take k) : x.take (k + 1) = y.take (k + 1) ↔ x[k]?.getD 0 = y[k]?.getD 0 := by
  have e1 := List.take_succ_eq_append_getElem hx
  have e2 := List.take_succ_eq_append_getElem hy
  rw [e1, e2, h, List.getElem?_eq_getElem hx, List.getElem?_eq_getElem hy, List.append_cancel_left_eq]
  simp

set_option maxHeartbeats 4000000 in
theorem refSameInts (w : World) (va vb : Value) (x y : List Int) (ha : Rd iV w va x) (hb : Rd iV w vb y) (hl : x.length ≤ 1000000000) :
    Calls Tryz.prog 10 #[va, vb] w fun e w' => e = .returned (.bool (x == y)) ∧ Below w.heap.size w w' := by
  obtain ⟨pa, ca, rfl⟩ := ha.slice
  obtain ⟨pb, cb, rfl⟩ := hb.slice
  by_cases hlen : x.length = y.length
  · have hne : ((x.length : Nat) : Int) = ((y.length : Nat) : Int) := by omega
    go_enter Tryz.func10, Tryz.ntmps10
    go_wp2_with fail
    go_loopw [5] (fun i wr => ∃ (k : Nat), k ≤ x.length ∧ i = .int .i64 k ∧ x.take k = y.take k ∧ Below w.heap.size w wr) (fun i _ => x.length - (intOf i).toNat)
    case atStart => exact ⟨0, by omega, rfl, by simp, Below.refl _ _⟩
    case round =>
      obtain ⟨k, hk, rfl, htk, hbl⟩ := hrel
      have HT := Lib.hid htk
      clear htk
      by_cases hlt : k < x.length
      · have hq : (k : Int) < (x.length : Int) := by omega
        have hq' : (k : Int) < (y.length : Int) := by omega
        obtain ⟨b1, o1, rfl⟩ : ∃ b o, pa = some ⟨b, o, none⟩ := by
          rcases ha with ⟨_, h0, h1⟩ | ⟨_, _, _, h0, _⟩
          · rw [h1] at hlt; simp at hlt
          · cases h0; exact ⟨_, _, rfl⟩
        obtain ⟨b2, o2, rfl⟩ : ∃ b o, pb = some ⟨b, o, none⟩ := by
          rcases hb with ⟨_, h0, h1⟩ | ⟨_, _, _, h0, _⟩
          · rw [h1] at hlen; simp at hlen; simp [hlen] at hlt
          · cases h0; exact ⟨_, _, rfl⟩
        have c1 : wr.cell? ⟨b1, o1 + k, none⟩ = some (.int .i64 (x[k]?.getD 0)) := Rd.elem (ha.below hbl) 0 k hlt
        have c2 : wr.cell? ⟨b2, o2 + k, none⟩ = some (.int .i64 (y[k]?.getD 0)) := Rd.elem (hb.below hbl) 0 k (by omega)
        have HS := Lib.hid (beq_take_succ x y k hlt (by omega) HT.out)
        have HLN := Lib.hid hlen
        clear hlen hne
        generalize x[k]?.getD 0 = p at c1 HS
        generalize y[k]?.getD 0 = q at c2 HS
        by_cases hpq : p = q
        · subst hpq
          have HN := Lib.hid (HS.out.2 rfl)
          go_wp2_with fail
          go_quiet (fail)
          go_wp2
          go_roundw
          case rel => exact ⟨k + 1, by omega, by go_num, HN.out, ⟨hbl.os, hbl.tape, hbl.output, hbl.size, hbl.block⟩⟩
          case measure => simp [intOf]; omega
        · have HN : Hid ((x == y) = false) := Lib.hid (by rw [beq_eq_false_iff_ne]; intro e; exact hpq (HS.out.1 (by rw [e])))
          go_wp2_with fail
          go_quiet (fail)
          go_wp2
          go_ret
          exact ⟨by rw [HN.out]; rfl, ⟨hbl.os, hbl.tape, hbl.output, hbl.size, hbl.block⟩⟩
      · obtain rfl : k = x.length := by omega
        have HN : Hid ((x == y) = true) := Lib.hid (by have := HT.out; rw [List.take_length, hlen, List.take_length] at this; rw [beq_iff_eq]; exact this)
        go_wp2
        go_ret
        exact ⟨by rw [HN.out]; rfl, hbl⟩
  · have hne : ¬ ((x.length : Nat) : Int) = ((y.length : Nat) : Int) := by omega
    have hxy : (x == y) = false := by rw [beq_eq_false_iff_ne]; intro e; exact hlen (by rw [e])
    go_enter Tryz.func10, Tryz.ntmps10
    go_wp2
    go_ret
    exact ⟨by rw [hxy]; rfl, Below.refl _ _⟩
end Go.Proofs.YteglnpanimgelaaGreatDoor
