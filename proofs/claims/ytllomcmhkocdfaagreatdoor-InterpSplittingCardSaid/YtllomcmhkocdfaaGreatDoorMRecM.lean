/- Records in memory; the reference's SameRecord and the law's numbers. -/
import Derived.WalkKit
import Derived.Outline
import Derived.Lib.Hide
import Derived.OwnWalk
import Derived.LoopTactic
import Derived.BigQuiet
import Derived.Deep.LoopGhost
import Derived.Deep.DeepMust
import Derived.WalkSmall
import Derived.Laws.IdiomStrings
import Derived.Lib.BufferRead
import Derived.Test.YtllomcmhkocdfaaGreatDoorMCells
import Derived.Test.YtllomcmhkocdfaaGreatDoorMOwn
namespace Go.Proofs.YtllomcmhkocdfaaGreatDoor
open Go Go.RowKit Mem
set_option maxRecDepth 100000

abbrev FL := ByteArray × List UInt8
/-- v reads as a row of fields -/
def Mem.Fields (w : World) (v : Value) (fs : List FL) : Prop :=
  (∃ p, v = .slice p 0 0 ∧ fs = []) ∨ ∃ b o cap, v = .slice (some ⟨b, o, none⟩) fs.length cap ∧ b < w.heap.size ∧
    ∀ i (hi : i < fs.length), w.cell? ⟨b, o + i * 2, none⟩ = some (.string fs[i].1) ∧ ∃ u, w.cell? ⟨b, o + i * 2 + 1, none⟩ = some u ∧ Rd u8V w u fs[i].2
theorem Mem.Fields.below {w w' : World} {v : Value} {fs : List FL} (h : Fields w v fs) (hb : Below w.heap.size w w') : Fields w' v fs := by
  rcases h with hn | ⟨b, o, cap, rfl, hl, hc⟩
  · exact .inl hn
  · refine .inr ⟨b, o, cap, rfl, Nat.lt_of_lt_of_le hl hb.size, fun i hi => ?_⟩
    obtain ⟨h1, u, h2, h3⟩ := hc i hi
    exact ⟨(hb.cell (p := ⟨b, _, none⟩) hl).trans h1, u, (hb.cell (p := ⟨b, _, none⟩) hl).trans h2, h3.below hb⟩
theorem Mem.Fields.slice {w : World} {v : Value} {fs : List FL} (h : Fields w v fs) : ∃ p cap, v = .slice p fs.length cap := by
  rcases h with ⟨p, rfl, rfl⟩ | ⟨b, o, cap, rfl, _⟩
  · exact ⟨p, 0, rfl⟩
  · exact ⟨_, _, rfl⟩
/-- whether two records are the same -/
def sameRec (ok1 ok2 : Bool) (c1 c2 : Int) (fs gs : List FL) : Bool := (ok1 == ok2) && (c1 == c2) && decide (fs = gs)
theorem bytes_beq (s t : ByteArray) : (s.toList == t.toList) = decide (s = t) := by
  have h : s.toList = t.toList ↔ s = t := by
    rw [ByteArray.toList_eq, ByteArray.toList_eq]
    obtain ⟨⟨x⟩⟩ := s; obtain ⟨⟨y⟩⟩ := t
    simp
  rw [Bool.eq_iff_iff, beq_iff_eq, decide_eq_true_eq, h]
theorem take_succ_iff {α : Type} (d : α) (x y : List α) (k : Nat) (hx : k < x.length) (hy : k < y.length) (h : x.take k = y.take k) : x.take (k + 1) = y.take (k + 1) ↔ x[k]?.getD d = y[k]?.getD d := by
  have e1 := List.take_succ_eq_append_getElem hx
  have e2 := List.take_succ_eq_append_getElem hy
  rw [e1, e2, h, List.getElem?_eq_getElem hx, List.getElem?_eq_getElem hy, List.append_cancel_left_eq]
  simp
theorem Mem.Fields.at {w : World} {b o n c : Nat} {fs : List FL} (h : Fields w (.slice (some ⟨b, o, none⟩) n c) fs) (d : FL) (k : Nat) (hk : k < fs.length) :
    w.cell? ⟨b, o + k * 2, none⟩ = some (.string (fs[k]?.getD d).1) ∧ ∃ u, w.cell? ⟨b, o + k * 2 + 1, none⟩ = some u ∧ Rd u8V w u (fs[k]?.getD d).2 := by
  rcases h with ⟨_, _, rfl⟩ | ⟨b', o', cap, h1, _, h2⟩
  · simp at hk
  · cases h1
    rw [List.getElem?_eq_getElem hk]
    exact h2 k hk

theorem Mem.run_convert_rd {P : Program} {w : World} {src dst e : TypeId} (hs : P.underlying src = some (.slice e)) (he : P.underlying e = some (.int .u8)) (hd : P.underlying dst = some .string) {v : Value} {l : List UInt8} (h : Rd u8V w v l) :
    (convert src dst v).run P w = .ok (.string ⟨l.toArray⟩) w := by
  rcases h with ⟨q, rfl, rfl⟩ | ⟨b, o, cap, rfl, _, ha, _⟩
  · cases q with
    | none => exact Lib.run_convert_nil_bytes w src dst e 0 hs he hd
    | some ad => exact run_convert_bytes_back w src dst e ad 0 [] hs he hd fun j hj => by cases hj
  · refine run_convert_bytes_back w src dst e ⟨b, o, none⟩ cap l hs he hd fun j hj => ?_
    have h2 : ((⟨b, o, none⟩ : Addr).add j) = ⟨b, o + j, none⟩ := by unfold Addr.add; split <;> simp_all
    rw [h2, ha j hj, List.getElem?_eq_getElem hj]
    rfl
theorem Mem.quiet_convert_rd {P : Program} {o : Oper} {a : Act} {w : World} {K : Act → Prop} {src dst e : TypeId} (x : Operand) (ho : o.op = .convert src dst x) (hs : P.underlying src = some (.slice e)) (he : P.underlying e = some (.int .u8)) (hd : P.underlying dst = some .string)
    {v : Value} {l : List UInt8} {d : Nat} (hdst : o.dst = some d) (hx : a.eval x = v) (hv : Rd u8V w v l) (hk : K { a with tmps := a.tmps.setIfInBounds d (.string ⟨l.toArray⟩) }) : o.quiet P a (fun w' => ∃ n, w' = w.drewN n) K := by
  have he1 : a.put o.dst (.string ⟨l.toArray⟩) = { a with tmps := a.tmps.setIfInBounds d (.string ⟨l.toArray⟩) } := by rw [hdst]; rfl
  refine ⟨_, ?_, by rw [he1]; exact hk⟩
  rintro _ ⟨n, rfl⟩
  have hv' : Rd u8V (w.drewN n) v l := hv
  have hrun := run_convert_rd (P := P) hs he hd hv'
  unfold Oper.quietAt
  simp [execOp, ho, hx, hrun, Result.andThen, Oper.quietUpon]

set_option maxHeartbeats 8000000 in
theorem rSameRecord (w : World) (ok1 ok2 : Bool) (c1 c2 : Int) (v1 v2 : Value) (fs gs : List FL) (h1 : Fields w v1 fs) (h2 : Fields w v2 gs) (hl : fs.length ≤ 1000000000) :
    Calls Tryz.prog 11 #[.agg #[.bool ok1, .int .i64 c1, v1], .agg #[.bool ok2, .int .i64 c2, v2]] w fun e w' => e = .returned (.bool (sameRec ok1 ok2 c1 c2 fs gs)) ∧ Below w.heap.size w w' := by
  obtain ⟨p1, k1, rfl⟩ := h1.slice
  obtain ⟨p2, k2, rfl⟩ := h2.slice
  have hb0 : Below w.heap.size w ((w.alloc (.cells #[.bool ok1, .int .i64 c1, .slice p1 fs.length k1] 49)).alloc (.cells #[.bool ok2, .int .i64 c2, .slice p2 gs.length k2] 49)) := ((Below.refl _ _).alloc (Nat.le_refl _) _).alloc (by simp) _
  have hx0 : ((w.alloc (.cells #[.bool ok1, .int .i64 c1, .slice p1 fs.length k1] 49)).alloc (.cells #[.bool ok2, .int .i64 c2, .slice p2 gs.length k2] 49)).heap[w.heap.size]? = some (.cells #[.bool ok1, .int .i64 c1, .slice p1 fs.length k1] 49 (0, 0)) := (Below.heap_alloc _ _ _ (by simp)).trans (World.alloc_heap_new _ _)
  have hy0 : ((w.alloc (.cells #[.bool ok1, .int .i64 c1, .slice p1 fs.length k1] 49)).alloc (.cells #[.bool ok2, .int .i64 c2, .slice p2 gs.length k2] 49)).heap[w.heap.size + 1]? = some (.cells #[.bool ok2, .int .i64 c2, .slice p2 gs.length k2] 49 (0, 0)) := by rw [← World.size_alloc w (.cells #[.bool ok1, .int .i64 c1, .slice p1 fs.length k1] 49)]; exact World.alloc_heap_new _ _
  by_cases hne : ok1 = ok2 ∧ c1 = c2 ∧ fs.length = gs.length
  · obtain ⟨rfl, rfl, hlen⟩ := hne
    rw [← hlen] at h2 hb0 hx0 hy0 ⊢
    have HR := Lib.hid (show sameRec ok1 ok1 c1 c1 fs gs = decide (fs = gs) by simp [sameRec])
    generalize hn : fs.length = n at *
    have HF := Lib.hid hn
    have HG := Lib.hid hlen
    clear hn hlen
    have b1 : (ok1 != ok1) = false := by simp
    have b2 : (c1 != c1) = false := by simp
    have b3 : (((n : Nat) : Int) != ((n : Nat) : Int)) = false := by simp
    go_enter Tryz.func11, Tryz.ntmps11
    go_wp2_with fail
    generalize hw0 : (w.alloc (.cells #[.bool ok1, .int .i64 c1, .slice p1 n k1] 49)).alloc (.cells #[.bool ok1, .int .i64 c1, .slice p2 n k2] 49) = w0 at hb0 hx0 hy0 ⊢
    clear hw0
    go_loopw [5] (fun i wr => ∃ (k : Nat), k ≤ n ∧ i = .int .i64 k ∧ fs.take k = gs.take k ∧ Below w0.heap.size w0 wr) (fun i _ => n - (intOf i).toNat)
    case atStart => exact ⟨0, by omega, rfl, by simp, Below.refl _ _⟩
    case round =>
      obtain ⟨k, hk, rfl, htk, hbl⟩ := hrel
      have HT := Lib.hid htk
      clear htk
      have hbt := hb0.trans (hbl.mono (by have := hb0.size; omega))
      have hx1 : wr.cell? ⟨w.heap.size, 2, none⟩ = some (.slice p1 n k1) := by
        have h := (hbl.block w.heap.size (Array.getElem?_eq_some_iff.1 hx0).1).trans hx0
        unfold World.cell?; rw [h]; rfl
      have hy1 : wr.cell? ⟨w.heap.size + 1, 2, none⟩ = some (.slice p2 n k2) := by
        have h := (hbl.block (w.heap.size + 1) (Array.getElem?_eq_some_iff.1 hy0).1).trans hy0
        unfold World.cell?; rw [h]; rfl
      by_cases hlt : k < n
      · have hq : (k : Int) < (n : Int) := by omega
        obtain ⟨a1, o1, rfl⟩ : ∃ b o, p1 = some ⟨b, o, none⟩ := by
          rcases h1 with ⟨_, h0, h⟩ | ⟨_, _, _, h0, _⟩
          · have := HF.out; rw [h] at this; simp at this; omega
          · cases h0; exact ⟨_, _, rfl⟩
        obtain ⟨a2, o2, rfl⟩ : ∃ b o, p2 = some ⟨b, o, none⟩ := by
          rcases h2 with ⟨_, h0, h⟩ | ⟨_, _, _, h0, _⟩
          · have := HG.out; rw [h] at this; simp at this; omega
          · cases h0; exact ⟨_, _, rfl⟩
        obtain ⟨cn1, v1, cv1, hr1⟩ := (h1.below hbt).at (ByteArray.empty, []) k (by rw [HF.out]; exact hlt)
        obtain ⟨cn2, v2, cv2, hr2⟩ := (h2.below hbt).at (ByteArray.empty, []) k (by rw [← HG.out]; exact hlt)
        have HS := Lib.hid (take_succ_iff (ByteArray.empty, []) fs gs k (by rw [HF.out]; exact hlt) (by rw [← HG.out]; exact hlt) HT.out)
        generalize fs[k]?.getD _ = x at *
        generalize gs[k]?.getD _ = y at *
        obtain ⟨s1, l1⟩ := x
        obtain ⟨s2, l2⟩ := y
        obtain ⟨pv1, kv1, rfl⟩ := hr1.slice
        obtain ⟨pv2, kv2, rfl⟩ := hr2.slice
        clear h1 h2 hx0 hy0 hb0
        by_cases hs : s1 = s2
        · subst hs
          have hg : (s1.toList == s1.toList) = true := by simp
          by_cases hll : l1 = l2
          · subst hll
            have HN := Lib.hid (HS.out.2 rfl)
            go_wp2_with fail
            refine wp_region_quiet_lit (by kernel_rfl) (by kernel_rfl) ?_
            repeat (first
              | go_big_quiet_skip
              | (go_big_quiet_want; first
                  | (go_big_quiet_op; go_big_quiet_on)
                  | ((with_reducible refine quiet_convert_rd (.tmp 53) ?_ Tryz.underlying22 Tryz.underlying5 Tryz.underlying9 (d := 54) ?_ ?_ hr1 ?_); rfl; rfl; rfl; go_big_quiet_on; simp only [List.setIfInBounds_toArray, List.set_cons_succ, List.set_cons_zero])
                  | ((with_reducible refine quiet_convert_rd (.tmp 60) ?_ Tryz.underlying22 Tryz.underlying5 Tryz.underlying9 (d := 61) ?_ ?_ hr2 ?_); rfl; rfl; rfl; go_big_quiet_on; simp only [List.setIfInBounds_toArray, List.set_cons_succ, List.set_cons_zero])))
            refine wpQuiet_nil ?_
            intro _ hw'
            obtain ⟨nq, rfl⟩ := hw'
            go_wp2
            go_roundw
            case rel => exact ⟨k + 1, by omega, by go_num, HN.out, ⟨hbl.os, hbl.tape, hbl.output, hbl.size, hbl.block⟩⟩
            case measure => simp [intOf]; omega
          · have HN : Hid (decide (fs = gs) = false) := Lib.hid (by rw [decide_eq_false_iff_not]; intro e; have := HS.out.1 (by rw [e]); exact hll (Prod.mk.inj this).2)
            have hgl : (l1 == l2) = false := by simp [hll]
            go_wp2_with fail
            refine wp_region_quiet_lit (by kernel_rfl) (by kernel_rfl) ?_
            repeat (first
              | go_big_quiet_skip
              | (go_big_quiet_want; first
                  | (go_big_quiet_op; go_big_quiet_on)
                  | ((with_reducible refine quiet_convert_rd (.tmp 53) ?_ Tryz.underlying22 Tryz.underlying5 Tryz.underlying9 (d := 54) ?_ ?_ hr1 ?_); rfl; rfl; rfl; go_big_quiet_on; simp only [List.setIfInBounds_toArray, List.set_cons_succ, List.set_cons_zero])
                  | ((with_reducible refine quiet_convert_rd (.tmp 60) ?_ Tryz.underlying22 Tryz.underlying5 Tryz.underlying9 (d := 61) ?_ ?_ hr2 ?_); rfl; rfl; rfl; go_big_quiet_on; simp only [List.setIfInBounds_toArray, List.set_cons_succ, List.set_cons_zero])))
            refine wpQuiet_nil ?_
            intro _ hw'
            obtain ⟨nq, rfl⟩ := hw'
            go_wp2
            go_ret
            exact ⟨by rw [HR.out, HN.out]; rfl, ⟨hbt.os, hbt.tape, hbt.output, hbt.size, hbt.block⟩⟩
        · have hg : (s1.toList == s2.toList) = false := by rw [bytes_beq]; simp [hs]
          have HN : Hid (decide (fs = gs) = false) := Lib.hid (by rw [decide_eq_false_iff_not]; intro e; have := HS.out.1 (by rw [e]); exact hs (Prod.mk.inj this).1)
          go_wp2_with fail
          refine wp_region_quiet_lit (by kernel_rfl) (by kernel_rfl) ?_
          repeat (first
            | go_big_quiet_skip
            | (go_big_quiet_want; first
                | (go_big_quiet_op; go_big_quiet_on)
                | ((with_reducible refine quiet_convert_rd (.tmp 53) ?_ Tryz.underlying22 Tryz.underlying5 Tryz.underlying9 (d := 54) ?_ ?_ hr1 ?_); rfl; rfl; rfl; go_big_quiet_on; simp only [List.setIfInBounds_toArray, List.set_cons_succ, List.set_cons_zero])
                | ((with_reducible refine quiet_convert_rd (.tmp 60) ?_ Tryz.underlying22 Tryz.underlying5 Tryz.underlying9 (d := 61) ?_ ?_ hr2 ?_); rfl; rfl; rfl; go_big_quiet_on; simp only [List.setIfInBounds_toArray, List.set_cons_succ, List.set_cons_zero])))
          refine wpQuiet_nil ?_
          intro _ hw'
          obtain ⟨nq, rfl⟩ := hw'
          go_wp2
          go_ret
          exact ⟨by rw [HR.out, HN.out]; rfl, ⟨hbt.os, hbt.tape, hbt.output, hbt.size, hbt.block⟩⟩
      · obtain rfl : k = n := by omega
        have HN : Hid (decide (fs = gs) = true) := Lib.hid (by
          have h := HT.out
          have h1 : List.take k fs = fs := by rw [← HF.out]; exact List.take_length
          have h2 : List.take k gs = gs := by rw [HG.out]; exact List.take_length
          rw [h1, h2] at h
          simp [h])
        clear h1 h2 hx0 hy0 hb0
        go_wp2
        go_ret
        exact ⟨by rw [HR.out, HN.out]; rfl, hbt⟩
  · by_cases h1e : ok1 = ok2
    · subst h1e
      by_cases h2e : c1 = c2
      · subst h2e
        have h3e : ¬ ((fs.length : Nat) : Int) = ((gs.length : Nat) : Int) := by intro e; exact hne ⟨rfl, rfl, by omega⟩
        have HR := Lib.hid (show sameRec ok1 ok1 c1 c1 fs gs = false by
          simp [sameRec]; intro e; exact h3e (by rw [e]))
        go_enter Tryz.func11, Tryz.ntmps11
        go_wp2
        go_ret
        exact ⟨by rw [HR.out]; rfl, hb0⟩
      · have HR := Lib.hid (show sameRec ok1 ok1 c1 c2 fs gs = false by simp [sameRec, h2e])
        go_enter Tryz.func11, Tryz.ntmps11
        go_wp2
        go_ret
        exact ⟨by rw [HR.out]; rfl, hb0⟩
    · have HR := Lib.hid (show sameRec ok1 ok2 c1 c2 fs gs = false by simp [sameRec, h1e])
      go_enter Tryz.func11, Tryz.ntmps11
      go_wp2
      go_ret
      exact ⟨by rw [HR.out]; rfl, hb0⟩
theorem Mem.Rd.elem {α : Type} {f : α → Value} {w : World} {b o n c : Nat} {l : List α} (h : Rd f w (.slice (some ⟨b, o, none⟩) n c) l) (d : α) (i : Nat) (hi : i < l.length) : w.cell? ⟨b, o + i, none⟩ = some (f (l[i]?.getD d)) := by
  rcases h with ⟨_, _, rfl⟩ | ⟨b', o', cap, h1, _, ha, _⟩
  · simp at hi
  · cases h1; exact ha.cell d i hi
theorem beq_take_succ (x y : List Int) (k : Nat) (hx : k < x.length) (hy : k < y.length) (h : x.take k = y.take k) : x.take (k + 1) = y.take (k + 1) ↔ x[k]?.getD 0 = y[k]?.getD 0 := by
  have e1 := List.take_succ_eq_append_getElem hx
  have e2 := List.take_succ_eq_append_getElem hy
  rw [e1, e2, h, List.getElem?_eq_getElem hx, List.getElem?_eq_getElem hy, List.append_cancel_left_eq]
  simp

set_option maxHeartbeats 4000000 in
theorem lNumbers (w : World) (va vb : Value) (x y : List Int) (ha : Rd iV w va x) (hb : Rd iV w vb y) (hl : x.length ≤ 1000000000) :
    Calls Tryz.prog 17 #[va, vb] w fun e w' => e = .returned (.bool (x == y)) ∧ Below w.heap.size w w' := by
  obtain ⟨pa, ca, rfl⟩ := ha.slice
  obtain ⟨pb, cb, rfl⟩ := hb.slice
  by_cases hlen : x.length = y.length
  · have hne : ((x.length : Nat) : Int) = ((y.length : Nat) : Int) := by omega
    go_enter Tryz.func17, Tryz.ntmps17
    go_wp2_with fail
    go_loopw [5] (fun i wr => ∃ (k : Nat), k ≤ x.length ∧ i = .int .i64 k ∧ x.take k = y.take k ∧ Below w.heap.size w wr) (fun i _ => x.length - (intOf i).toNat)
    case atStart => exact ⟨0, by omega, rfl, by simp, Below.refl _ _⟩
    case round =>
      obtain ⟨k, hk, rfl, htk, hbl⟩ := hrel
      have HT := Lib.hid htk
      clear htk
      by_cases hlt : k < x.length
      · have hq : (k : Int) < (x.length : Int) := by omega
        have hq' : (k : Int) < (y.length : Int) := by omega
        obtain ⟨b1, o1, rfl⟩ : ∃ b o, pa = some ⟨b, o, none⟩ := by
          rcases ha with ⟨_, h0, h1⟩ | ⟨_, _, _, h0, _⟩
          · rw [h1] at hlt; simp at hlt
          · cases h0; exact ⟨_, _, rfl⟩
        obtain ⟨b2, o2, rfl⟩ : ∃ b o, pb = some ⟨b, o, none⟩ := by
          rcases hb with ⟨_, h0, h1⟩ | ⟨_, _, _, h0, _⟩
          · rw [h1] at hlen; simp at hlen; simp [hlen] at hlt
          · cases h0; exact ⟨_, _, rfl⟩
        have c1 : wr.cell? ⟨b1, o1 + k, none⟩ = some (.int .i64 (x[k]?.getD 0)) := Rd.elem (ha.below hbl) 0 k hlt
        have c2 : wr.cell? ⟨b2, o2 + k, none⟩ = some (.int .i64 (y[k]?.getD 0)) := Rd.elem (hb.below hbl) 0 k (by omega)
        have HS := Lib.hid (beq_take_succ x y k hlt (by omega) HT.out)
        have HLN := Lib.hid hlen
        clear hlen hne
        generalize x[k]?.getD 0 = p at c1 HS
        generalize y[k]?.getD 0 = q at c2 HS
        by_cases hpq : p = q
        · subst hpq
          have HN := Lib.hid (HS.out.2 rfl)
          go_wp2_with fail
          go_quiet (fail)
          go_wp2
          go_roundw
          case rel => exact ⟨k + 1, by omega, by go_num, HN.out, ⟨hbl.os, hbl.tape, hbl.output, hbl.size, hbl.block⟩⟩
          case measure => simp [intOf]; omega
        · have HN : Hid ((x == y) = false) := Lib.hid (by rw [beq_eq_false_iff_ne]; intro e; exact hpq (HS.out.1 (by rw [e])))
          go_wp2_with fail
          go_quiet (fail)
          go_wp2
          go_ret
          exact ⟨by rw [HN.out]; rfl, ⟨hbl.os, hbl.tape, hbl.output, hbl.size, hbl.block⟩⟩
      · obtain rfl : k = x.length := by omega
        have HN : Hid ((x == y) = true) := Lib.hid (by have := HT.out; rw [List.take_length, hlen, List.take_length] at this; rw [beq_iff_eq]; exact this)
        go_wp2
        go_ret
        exact ⟨by rw [HN.out]; rfl, hbl⟩
  · have hne : ¬ ((x.length : Nat) : Int) = ((y.length : Nat) : Int) := by omega
    have hxy : (x == y) = false := by rw [beq_eq_false_iff_ne]; intro e; exact hlen (by rw [e])
    go_enter Tryz.func17, Tryz.ntmps17
    go_wp2
    go_ret
    exact ⟨by rw [hxy]; rfl, Below.refl _ _⟩
end Go.Proofs.YtllomcmhkocdfaaGreatDoor
