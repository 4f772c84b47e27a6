/- Bytes as a string; bytes.Equal; records alike. -/
import Derived.Laws.IdiomStrings
import Derived.Lib.BufferRead
import Derived.Test.YtgflelodpcgmbaaGreatDoorMRead
namespace Go.Proofs.YtgflelodpcgmbaaGreatDoor
open Go Go.RowKit Mem
set_option maxRecDepth 100000

namespace Mem
variable {P : Program} {ops : Array Oper} {rest : List Oper} {o : Oper} {a : Act} {Q : Exit → Act → World → Prop} {w : World}
theorem run_convert_rd {src dst e : TypeId} (hs : P.underlying src = some (.slice e)) (he : P.underlying e = some (.int .u8)) (hd : P.underlying dst = some .string) {v : Value} {l : List UInt8} (h : Rd u8V w v l) :
    (convert src dst v).run P w = .ok (.string ⟨l.toArray⟩) w := by
  rcases h with ⟨q, rfl, rfl⟩ | ⟨b, o, cap, rfl, _, ha, _⟩
  · cases q with
    | none => exact Lib.run_convert_nil_bytes w src dst e 0 hs he hd
    | some ad => exact run_convert_bytes_back w src dst e ad 0 [] hs he hd fun j hj => by cases hj
  · refine run_convert_bytes_back w src dst e ⟨b, o, none⟩ cap l hs he hd fun j hj => ?_
    have h2 : ((⟨b, o, none⟩ : Addr).add j) = ⟨b, o + j, none⟩ := by unfold Addr.add; split <;> simp_all
    rw [h2, ha j hj, List.getElem?_eq_getElem hj]
    rfl
theorem convert_w {src dst e : TypeId} (x : Operand) (hw : Region.wanted o (yielded ops a.tmps) = true) (ho : o.op = .convert src dst x) (hs : P.underlying src = some (.slice e)) (he : P.underlying e = some (.int .u8)) (hd : P.underlying dst = some .string)
    {v : Value} {l : List UInt8} (hx : a.eval x = v) (hv : Rd u8V w v l) {s : ByteArray} (hsl : s = ⟨l.toArray⟩) (h : wpList P ops Q rest (a.put o.dst (.string s)) w) : wpList P ops Q (o :: rest) a w := by
  subst hsl
  refine wpList_step fun K hK => ?_
  rw [if_pos hw]
  have hrun := run_convert_rd (P := P) hs he hd hv
  unfold Oper.wp
  simp [execOp, ho, hx, hrun, Result.andThen]
  exact hK _ _ h
end Mem
theorem ba_beq (x y : List UInt8) : ((⟨x.toArray⟩ : ByteArray).toList == (⟨y.toArray⟩ : ByteArray).toList) = (x == y) := by
  have h : ∀ l : List UInt8, (⟨l.toArray⟩ : ByteArray).toList = l := fun l => by rw [ByteArray.toList_eq]
  rw [h, h]

theorem bytesEqual (w : World) (va vb : Value) (x y : List UInt8) (ha : Rd u8V w va x) (hb : Rd u8V w vb y) :
    Calls Tryz.prog 88 #[va, vb] w fun e w' => e = .returned (.bool (x == y)) ∧ w' = w := by
  obtain ⟨pa, ca, rfl⟩ := ha.slice
  obtain ⟨pb, cb, rfl⟩ := hb.slice
  go_enter Tryz.func88, Tryz.ntmps88
  go_wp2_with (first
    | ((with_reducible refine convert_w (.tmp 5) ?_ ?_ Tryz.underlying29 Tryz.underlying5 Tryz.underlying9 ?_ ha rfl ?_); rfl; rfl; rfl)
    | ((with_reducible refine convert_w (.tmp 7) ?_ ?_ Tryz.underlying29 Tryz.underlying5 Tryz.underlying9 ?_ hb rfl ?_); rfl; rfl; rfl))
  go_ret
  exact ⟨rfl, rfl⟩

theorem alikeF (w : World) (nm : ByteArray) (va vb : Value) (x y : List UInt8) (ha : Rd u8V w va x) (hb : Rd u8V w vb y) :
    Calls Tryz.prog 108 #[.agg #[.string nm, va], .agg #[.string nm, vb]] w fun e w' => e = .returned (.bool (x == y)) ∧ Below w.heap.size w w' := by
  obtain ⟨pa, ca, rfl⟩ := ha.slice
  obtain ⟨pb, cb, rfl⟩ := hb.slice
  have hB : Below w.heap.size w ((w.alloc (.cells #[.string nm, .slice pa x.length ca] 199)).alloc (.cells #[.string nm, .slice pb y.length cb] 199)) := ((Below.refl _ _).alloc (Nat.le_refl _) _).alloc (by simp) _
  have ha2 := (ha.alloc (.cells #[.string nm, .slice pa x.length ca] 199)).alloc (.cells #[.string nm, .slice pb y.length cb] 199)
  have hb2 := (hb.alloc (.cells #[.string nm, .slice pa x.length ca] 199)).alloc (.cells #[.string nm, .slice pb y.length cb] 199)
  go_enter Tryz.func108, Tryz.ntmps108
  go_wp2_with (first
    | ((with_reducible refine convert_w (.tmp 12) ?_ ?_ Tryz.underlying29 Tryz.underlying5 Tryz.underlying9 ?_ ha2 rfl ?_); rfl; rfl; rfl)
    | ((with_reducible refine convert_w (.tmp 15) ?_ ?_ Tryz.underlying29 Tryz.underlying5 Tryz.underlying9 ?_ hb2 rfl ?_); rfl; rfl; rfl))
  go_ret
  exact ⟨rfl, hB⟩

theorem aggField : AggT Tryz.prog 199 2 := ⟨fun _ => by kernel_rfl, fun _ => by kernel_rfl⟩
def fieldL (nm : ByteArray) (p : Option Addr) (n c : Nat) : List OC := [os nm, ⟨.slice p n c, rfl⟩]
set_option maxHeartbeats 4000000 in
theorem equalF (w : World) (nm : ByteArray) (g1 c1 g2 c2 : Nat) (pa pb : Option Addr) (ca cb : Nat) (x y : List UInt8) (ha : Rd u8V w (.slice pa x.length ca) x) (hb : Rd u8V w (.slice pb y.length cb) y)
    (h1 : At oV w g1 0 (fieldL nm pa x.length ca)) (h2 : At oV w g2 0 (fieldL nm pb y.length cb)) (l2 : g2 < w.heap.size) :
    Calls Tryz.prog 107 #[.slice (some ⟨g1, 0, none⟩) 1 c1, .slice (some ⟨g2, 0, none⟩) 1 c2, .func (.func 108) #[] #[]] w fun e w' => e = .returned (.bool (x == y)) ∧ Below w.heap.size w w' := by
  have HA := Lib.hid ha
  have HB := Lib.hid hb
  have hB1 : Below w.heap.size w (w.alloc (.cells #[.string nm, .slice pa x.length ca] 199)) := (Below.refl _ _).alloc (Nat.le_refl _) _
  have hB2 : Below w.heap.size w ((w.alloc (.cells #[.string nm, .slice pa x.length ca] 199)).alloc (.cells #[.string nm, .slice pb y.length cb] 199)) := hB1.alloc (by simp) _
  have h22 := h2.below hB1 l2
  have r1 : Row oV ((w.alloc (.cells #[.string nm, .slice pa x.length ca] 199)).alloc (.cells #[.string nm, .slice pb y.length cb] 199)) w.heap.size 199 (fieldL nm pa x.length ca) := Row.alloc (Row.new (f := oV) (l := fieldL nm pa x.length ca) w (.cells #[.string nm, .slice pa x.length ca] 199) rfl) _
  have r2 : Row oV ((w.alloc (.cells #[.string nm, .slice pa x.length ca] 199)).alloc (.cells #[.string nm, .slice pb y.length cb] 199)) (w.heap.size + 1) 199 (fieldL nm pb y.length cb) := heap_new' _ _ _ (by simp)
  clear ha hb hB1
  go_enter Tryz.func107, Tryz.ntmps107
  go_wp2_with fail
  refine wp_loop_rounds 2 ?_
  refine rounds_step (n := 1) ?_
  go_upto_region 7 with (first
    | ((with_reducible refine load_agg (f := oV) (l := fieldL nm pa x.length ca) (C := #[.string nm, .slice pa x.length ca]) aggField (.tmp 20) ?_ ?_ g1 0 ?_ h1 rfl ?_); rfl; rfl; rfl)
    | ((with_reducible refine load_agg (f := oV) (l := fieldL nm pb y.length cb) (C := #[.string nm, .slice pb y.length cb]) aggField (.tmp 24) ?_ ?_ g2 0 ?_ h22 rfl ?_); rfl; rfl; rfl))
  generalize ((w.alloc (.cells #[.string nm, .slice pa x.length ca] 199)).alloc (.cells #[.string nm, .slice pb y.length cb] 199)) = W at hB2 r1 r2 ⊢
  go_wp2_with (first
    | ((with_reducible refine load_agg (f := oV) (l := fieldL nm pa x.length ca) (C := #[.string nm, .slice pa x.length ca]) aggField (.tmp 8) ?_ ?_ w.heap.size 0 ?_ r1.at rfl ?_); rfl; rfl; rfl)
    | ((with_reducible refine load_agg (f := oV) (l := fieldL nm pb y.length cb) (C := #[.string nm, .slice pb y.length cb]) aggField (.tmp 9) ?_ ?_ (w.heap.size + 1) 0 ?_ r2.at rfl ?_); rfl; rfl; rfl))
  refine (alikeF W nm _ _ x y (HA.out.below hB2) (HB.out.below hB2)).mono ?_
  rintro e W2 ⟨rfl, hB3⟩
  replace hB2 := hB2.trans (hB3.mono hB2.size)
  clear r1 r2 hB3 h1 h2 h22
  cases hxy : (x == y) with
  | true =>
    go_wp2_with fail
    refine rounds_step (n := 0) ?_
    go_wp2
    go_ret
    exact ⟨by rw [hxy]; rfl, hB2⟩
  | false =>
    go_wp2
    go_ret
    exact ⟨by rw [hxy]; rfl, hB2⟩

/-- two records of one field are alike just if the bytes are the same -/
theorem alike1 (w : World) (nm : ByteArray) (v1 v2 : Value) (x y : List UInt8) (h1 : RecAt w v1 nm x) (h2 : RecAt w v2 nm y) :
    Calls Tryz.prog 87 #[v1, v2] w fun e w' => e = .returned (.bool (x == y)) ∧ Below w.heap.size w w' := by
  obtain ⟨g1, c1, u1, rfl, a1, b1, r1, l1, k1⟩ := h1
  obtain ⟨g2, c2, u2, rfl, a2, b2, r2, l2, k2⟩ := h2
  obtain ⟨pa, ca, rfl⟩ := r1.slice
  obtain ⟨pb, cb, rfl⟩ := r2.slice
  have hB : Below w.heap.size w ((w.alloc (.cells #[.bool true, .int .i64 0, .slice (some ⟨g1, 0, none⟩) 1 c1] 160)).alloc (.cells #[.bool true, .int .i64 0, .slice (some ⟨g2, 0, none⟩) 1 c2] 160)) := ((Below.refl _ _).alloc (Nat.le_refl _) _).alloc (by simp) _
  have hl : ∀ b, b < w.heap.size → b < ((w.alloc (.cells #[.bool true, .int .i64 0, .slice (some ⟨g1, 0, none⟩) 1 c1] 160)).alloc (.cells #[.bool true, .int .i64 0, .slice (some ⟨g2, 0, none⟩) 1 c2] 160)).heap.size := fun b h => Nat.lt_of_lt_of_le h hB.size
  have f1 : At oV w g1 0 (fieldL nm pa x.length ca) := by
    intro i hi
    rcases (by simp [fieldL] at hi; omega : i = 0 ∨ i = 1) with rfl | rfl
    · exact a1
    · exact b1
  have f2 : At oV w g2 0 (fieldL nm pb y.length cb) := by
    intro i hi
    rcases (by simp [fieldL] at hi; omega : i = 0 ∨ i = 1) with rfl | rfl
    · exact a2
    · exact b2
  have hc := equalF _ nm g1 c1 g2 c2 pa pb ca cb x y (r1.below hB) (r2.below hB) (f1.below hB l1) (f2.below hB l2) (hl _ l2)
  clear a1 b1 a2 b2 f1 f2 r1 r2 hl
  go_enter Tryz.func87, Tryz.ntmps87
  go_wp2_with fail
  refine hc.mono ?_
  rintro e W2 ⟨rfl, hB2⟩
  go_wp2
  go_ret
  exact ⟨rfl, hB.trans (hB2.mono hB.size)⟩
end Go.Proofs.YtgflelodpcgmbaaGreatDoor
