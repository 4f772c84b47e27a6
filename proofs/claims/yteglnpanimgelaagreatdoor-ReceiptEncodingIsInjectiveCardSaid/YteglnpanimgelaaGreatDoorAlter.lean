/- univocallaw34.altered: what it returns is a receipt. -/
import Derived.WalkKit
import Derived.Outline
import Derived.Lib.Hide
import Derived.OwnWalk
import Derived.WalkSmall
import Derived.Test.YteglnpanimgelaaGreatDoorAlterP
import Derived.Test.YteglnpanimgelaaGreatDoorIssue
namespace Go.Proofs.YteglnpanimgelaaGreatDoor
open Go.RowKit Mem
set_option maxRecDepth 100000

theorem isRec_agg {l : List (Int ⊕ UInt8)} (h : IsRec l) : AggT Tryz.prog 40 l.length := by rw [h.length]; exact aggReceipt


/-- block b holds a receipt -/
def IsRecAt (w : World) (b : Nat) : Prop := ∃ l, IsRec l ∧ Row cV w b 40 l
theorem IsRecAt.int {w : World} {b : Nat} (h : IsRecAt w b) (i : Nat) (hi : i < 3) (z : Int) : IsRecAt (w.setCell ⟨b, i, none⟩ (.int .i64 z)) b := by
  obtain ⟨l, hl, hr⟩ := h
  exact ⟨_, hl.int i hi z, hr.set i (.inl z)⟩
theorem IsRecAt.byte {w : World} {b : Nat} (h : IsRecAt w b) (i : Nat) (hi : 3 ≤ i) (k : Int) (y : UInt8) (hk : k = (y.toNat : Int)) : IsRecAt (w.setCell ⟨b, i, none⟩ (.int .u8 k)) b := by
  subst hk
  obtain ⟨l, hl, hr⟩ := h
  exact ⟨_, hl.byte i hi y, hr.set i (.inr y)⟩
theorem load_rec {ops : Array Oper} {rest : List Oper} {o : Oper} {a : Act} {Q : Exit → Act → World → Prop} {w : World} (x : Operand) (hgd : o.guard = none) (ho : o.op = .load 40 x) (b : Nat) (hx : a.eval x = .pointer (some ⟨b, 0, none⟩)) (h : IsRecAt w b)
    (hk : ∀ l' C', IsRec l' → Hid (C' = (l'.map cV).toArray) → wpList Tryz.prog ops Q rest (a.put o.dst (.agg C')) w) : wpList Tryz.prog ops Q (o :: rest) a w := by
  obtain ⟨l, hl, hr⟩ := h
  exact load_agg (f := cV) (l := l) (isRec_agg hl) x hgd ho b 0 hx hr.at rfl (hk l _ hl (Lib.hid rfl))
abbrev zrec : List (Int ⊕ UInt8) := recL 0 0 0 (List.replicate 32 0) (List.replicate 32 0) (List.replicate 32 0)

/-- the walk stops here -/
def Pause (p : Prop) : Prop := p
theorem Pause.out {p : Prop} (h : p) : Pause p := h
theorem Pause.back {p : Prop} (h : Pause p) : p := h
theorem max_law {ops : Array Oper} {rest : List Oper} {o : Oper} {a : Act} {Q : Exit → Act → World → Prop} {w : World} (p : Operand) (hgd : o.guard = none) (ho : o.op = .call { callee := .builtin .max, args := #[p, .const (.int .u8 1)], argTypes := #[5, 5] })
    (b x : UInt8) (hp : a.eval p = .int .u8 (b.toNat : Int)) (hx : (x.toNat : Int) = if (b.toNat : Int) < 1 then 1 else (b.toNat : Int)) (hk : wpList Tryz.prog ops Q rest (a.put o.dst (.int .u8 (x.toNat : Int))) w) : wpList Tryz.prog ops Q (o :: rest) a w := by
  refine wpList_plain hgd fun K hK => ?_
  have hr : (execOp a.eval o).run Tryz.prog w = .ok (.value (.int .u8 (x.toNat : Int))) w := by
    have hc : a.eval (.const (.int .u8 1)) = .int .u8 1 := rfl
    simp only [execOp, ho, resolve, invoke, builtin, Sem.run_bind, Sem.run_pure, Result.andThen_ok, List.map_toArray, List.map_cons, List.map_nil, hp, hc, Builtin.max_, Builtin.max2, List.foldlM_cons, List.foldlM_nil]
    rw [hx]
  unfold Oper.wp
  rw [hr]
  exact hK _ _ hk

set_option maxHeartbeats 8000000 in
theorem altered (w : World) (l : List (Int ⊕ UInt8)) (hl : IsRec l) (C0 : Array Value) (HC : Hid (C0 = (l.map cV).toArray)) (what b : UInt8) :
    Calls Tryz.prog 16 #[.agg C0, .int .u8 (what.toNat : Int), .int .u8 (b.toNat : Int)] w fun e w' => ∃ C l', e = .returned (.agg C) ∧ IsRec l' ∧ Hid (C = (l'.map cV).toArray) ∧ Below w.heap.size w w' := by
  have hw8 := Words.u8_lt what
  have hR0 : Row cV ((w.alloc (.cells C0 40)).alloc (.cells Tryz.zeroCells40 40)) w.heap.size 40 l := Row.alloc (Row.new w _ (by rw [HC.out])) _
  have hZ0 : Row cV ((w.alloc (.cells C0 40)).alloc (.cells Tryz.zeroCells40 40)) (w.heap.size + 1) 40 zrec := by
    have := Row.new (f := cV) (t := 40) (l := zrec) (w.alloc (.cells C0 40)) (.cells Tryz.zeroCells40 40) (by rw [zeroReceipt])
    rwa [World.size_alloc] at this
  have hb0 : Below w.heap.size w ((w.alloc (.cells C0 40)).alloc (.cells Tryz.zeroCells40 40)) := ((Below.refl _ _).alloc (Nat.le_refl _) _).alloc (by simp) _
  have hcase : what.toNat % 6 = 0 ∨ what.toNat % 6 = 1 ∨ what.toNat % 6 = 2 ∨ what.toNat % 6 = 3 ∨ what.toNat % 6 = 4 ∨ what.toNat % 6 = 5 := by omega
  have hXX : ∃ x : UInt8, (x.toNat : Int) = if (b.toNat : Int) < 1 then 1 else (b.toNat : Int) := by
    by_cases h : (b.toNat : Int) < 1
    · exact ⟨1, by rw [if_pos h]; rfl⟩
    · exact ⟨b, by rw [if_neg h]⟩
  obtain ⟨x, hXX⟩ := hXX
  have HXX := Lib.hid hXX
  have HCASE := Lib.hid hcase
  have HRZ := Lib.hid (And.intro hR0 (And.intro hZ0 hb0))
  have HL := Lib.hid hl
  clear hXX hcase hR0 hZ0 hb0 hw8 hl
  go_enter Tryz.func16, Tryz.ntmps16
  go_wp2_with ((with_reducible refine max_law (.tmp 8) ?_ ?_ b x ?_ HXX.out ?_); rfl; rfl; rfl; refine Pause.back ?_)
  obtain ⟨hR0, hZ0, hb0⟩ := HRZ.out
  have hrec : IsRecAt ((w.alloc (.cells C0 40)).alloc (.cells Tryz.zeroCells40 40)) w.heap.size := ⟨l, HL.out, hR0⟩
  clear HRZ
  generalize (w.alloc (.cells C0 40)).alloc (.cells Tryz.zeroCells40 40) = W at *
  refine Pause.out ?_
  have HZO := Lib.hid hZ0
  have HBO := Lib.hid hb0
  have HREC := Lib.hid hrec
  have hl := HL.out
  have hw8 := Words.u8_lt what
  clear hZ0 hb0 hrec HXX
  rcases HCASE.out with h | h | h | h | h | h
  · obtain ⟨z, hz⟩ := hl.at_int 0 (by omega)
    have c0 : W.cell? ⟨w.heap.size, 0, none⟩ = some (.int .i64 z) := by rw [hR0.cell?, hz]; rfl
    have f0 := hR0.frozen 0
    clear hz
    have t0 : ((what.toNat : Int) % 6 == 0) = true := by rw [beq_iff_eq]; omega
    clear hR0 h HCASE hl HL HC hw8
    go_wp2_with (first
      | ((with_reducible refine load_rec (.tmp 3) ?_ ?_ w.heap.size ?_ ?_ ?_); rfl; rfl; rfl; exact (HREC.out.int 0 (by omega) _); intro l' C' hl' HC')
      | ((with_reducible refine store_agg (f := cV) (l := zrec) (l' := l') (t := 40) (C := C') (isRec_agg hl') (.tmp 6) (.tmp 79) ?_ ?_ (w.heap.size + 1) ?_ ?_ ?_ ?_ ?_ cV_one ?_); rfl; rfl; rfl; exact HC'.out; rfl; exact (HZO.out.set_other (b' := w.heap.size) (by omega) _ _); exact hl'.length; intro w9 hR9 hG9 hz9))
    refine bodyPost_ret (v := .agg (l'.map cV).toArray) (results_agg (l := l') (f := cV) rfl _ (isRec_agg hl') (w.heap.size + 1) 0 rfl hR9.at) rfl ?_
    exact ⟨_, l', rfl, hl', Lib.hid rfl, (Below.setCell HBO.out (p := ⟨w.heap.size, 0, none⟩) (Nat.le_refl _) _).grown hG9 (by have := HBO.out.size; simp; omega) (fun k e => by cases e; omega)⟩
  · obtain ⟨z, hz⟩ := hl.at_int 1 (by omega)
    have c0 : W.cell? ⟨w.heap.size, 1, none⟩ = some (.int .i64 z) := by rw [hR0.cell?, hz]; rfl
    have f0 := hR0.frozen 1
    clear hz
    have t0 : ((what.toNat : Int) % 6 == 0) = false := by rw [beq_eq_false_iff_ne]; omega
    have t1 : ((what.toNat : Int) % 6 == 1) = true := by rw [beq_iff_eq]; omega
    clear hR0 h HCASE hl HL HC hw8
    go_wp2_with (first
      | ((with_reducible refine load_rec (.tmp 3) ?_ ?_ w.heap.size ?_ ?_ ?_); rfl; rfl; rfl; exact (HREC.out.int 1 (by omega) _); intro l' C' hl' HC')
      | ((with_reducible refine store_agg (f := cV) (l := zrec) (l' := l') (t := 40) (C := C') (isRec_agg hl') (.tmp 6) (.tmp 79) ?_ ?_ (w.heap.size + 1) ?_ ?_ ?_ ?_ ?_ cV_one ?_); rfl; rfl; rfl; exact HC'.out; rfl; exact (HZO.out.set_other (b' := w.heap.size) (by omega) _ _); exact hl'.length; intro w9 hR9 hG9 hz9))
    refine bodyPost_ret (v := .agg (l'.map cV).toArray) (results_agg (l := l') (f := cV) rfl _ (isRec_agg hl') (w.heap.size + 1) 0 rfl hR9.at) rfl ?_
    exact ⟨_, l', rfl, hl', Lib.hid rfl, (Below.setCell HBO.out (p := ⟨w.heap.size, 1, none⟩) (Nat.le_refl _) _).grown hG9 (by have := HBO.out.size; simp; omega) (fun k e => by cases e; omega)⟩
  · obtain ⟨z, hz⟩ := hl.at_int 2 (by omega)
    have c0 : W.cell? ⟨w.heap.size, 2, none⟩ = some (.int .i64 z) := by rw [hR0.cell?, hz]; rfl
    have f0 := hR0.frozen 2
    clear hz
    have t0 : ((what.toNat : Int) % 6 == 0) = false := by rw [beq_eq_false_iff_ne]; omega
    have t1 : ((what.toNat : Int) % 6 == 1) = false := by rw [beq_eq_false_iff_ne]; omega
    have t2 : ((what.toNat : Int) % 6 == 2) = true := by rw [beq_iff_eq]; omega
    clear hR0 h HCASE hl HL HC hw8
    go_wp2_with (first
      | ((with_reducible refine load_rec (.tmp 3) ?_ ?_ w.heap.size ?_ ?_ ?_); rfl; rfl; rfl; exact (HREC.out.int 2 (by omega) _); intro l' C' hl' HC')
      | ((with_reducible refine store_agg (f := cV) (l := zrec) (l' := l') (t := 40) (C := C') (isRec_agg hl') (.tmp 6) (.tmp 79) ?_ ?_ (w.heap.size + 1) ?_ ?_ ?_ ?_ ?_ cV_one ?_); rfl; rfl; rfl; exact HC'.out; rfl; exact (HZO.out.set_other (b' := w.heap.size) (by omega) _ _); exact hl'.length; intro w9 hR9 hG9 hz9))
    refine bodyPost_ret (v := .agg (l'.map cV).toArray) (results_agg (l := l') (f := cV) rfl _ (isRec_agg hl') (w.heap.size + 1) 0 rfl hR9.at) rfl ?_
    exact ⟨_, l', rfl, hl', Lib.hid rfl, (Below.setCell HBO.out (p := ⟨w.heap.size, 2, none⟩) (Nat.le_refl _) _).grown hG9 (by have := HBO.out.size; simp; omega) (fun k e => by cases e; omega)⟩
  · have hK : what.toNat / 6 % 32 < 32 := by omega
    have n1 : ((what.toNat : Int) / 6 % 32).toNat = what.toNat / 6 % 32 := by omega
    have p1 : 0 ≤ (what.toNat : Int) / 6 % 32 := by omega
    have p2 : (what.toNat : Int) / 6 % 32 < 32 := by omega
    generalize what.toNat / 6 % 32 = K at hK n1
    obtain ⟨y, hy⟩ := hl.at_byte (3 + K) (by omega) (by omega)
    have c0 : W.cell? ⟨w.heap.size, 3 + K, none⟩ = some (.int .u8 (y.toNat : Int)) := by rw [hR0.cell?, hy]; rfl
    have f0 := hR0.frozen (3 + K)
    have HXR := Lib.hid (Words.u8_xor y x)
    clear hy
    have t0 : ((what.toNat : Int) % 6 == 0) = false := by rw [beq_eq_false_iff_ne]; omega
    have t1 : ((what.toNat : Int) % 6 == 1) = false := by rw [beq_eq_false_iff_ne]; omega
    have t2 : ((what.toNat : Int) % 6 == 2) = false := by rw [beq_eq_false_iff_ne]; omega
    have t3 : ((what.toNat : Int) % 6 == 3) = true := by rw [beq_iff_eq]; omega
    clear hR0 h HCASE hl HL HC hw8
    go_wp2_with (first
      | ((with_reducible refine load_rec (.tmp 3) ?_ ?_ w.heap.size ?_ ?_ ?_); rfl; rfl; rfl; exact (HREC.out.byte (3 + K) (by omega) _ (y ^^^ x) HXR.out); intro l' C' hl' HC')
      | ((with_reducible refine store_agg (f := cV) (l := zrec) (l' := l') (t := 40) (C := C') (isRec_agg hl') (.tmp 6) (.tmp 79) ?_ ?_ (w.heap.size + 1) ?_ ?_ ?_ ?_ ?_ cV_one ?_); rfl; rfl; rfl; exact HC'.out; rfl; exact (HZO.out.set_other (b' := w.heap.size) (by omega) _ _); exact hl'.length; intro w9 hR9 hG9 hz9))
    refine bodyPost_ret (v := .agg (l'.map cV).toArray) (results_agg (l := l') (f := cV) rfl _ (isRec_agg hl') (w.heap.size + 1) 0 rfl hR9.at) rfl ?_
    exact ⟨_, l', rfl, hl', Lib.hid rfl, (Below.setCell HBO.out (p := ⟨w.heap.size, 3 + K, none⟩) (Nat.le_refl _) _).grown hG9 (by have := HBO.out.size; simp; omega) (fun k e => by cases e; omega)⟩
  · have hK : what.toNat / 6 % 32 < 32 := by omega
    have n1 : ((what.toNat : Int) / 6 % 32).toNat = what.toNat / 6 % 32 := by omega
    have p1 : 0 ≤ (what.toNat : Int) / 6 % 32 := by omega
    have p2 : (what.toNat : Int) / 6 % 32 < 32 := by omega
    generalize what.toNat / 6 % 32 = K at hK n1
    obtain ⟨y, hy⟩ := hl.at_byte (35 + K) (by omega) (by omega)
    have c0 : W.cell? ⟨w.heap.size, 35 + K, none⟩ = some (.int .u8 (y.toNat : Int)) := by rw [hR0.cell?, hy]; rfl
    have f0 := hR0.frozen (35 + K)
    have HXR := Lib.hid (Words.u8_xor y x)
    clear hy
    have t0 : ((what.toNat : Int) % 6 == 0) = false := by rw [beq_eq_false_iff_ne]; omega
    have t1 : ((what.toNat : Int) % 6 == 1) = false := by rw [beq_eq_false_iff_ne]; omega
    have t2 : ((what.toNat : Int) % 6 == 2) = false := by rw [beq_eq_false_iff_ne]; omega
    have t3 : ((what.toNat : Int) % 6 == 3) = false := by rw [beq_eq_false_iff_ne]; omega
    have t4 : ((what.toNat : Int) % 6 == 4) = true := by rw [beq_iff_eq]; omega
    clear hR0 h HCASE hl HL HC hw8
    go_wp2_with (first
      | ((with_reducible refine load_rec (.tmp 3) ?_ ?_ w.heap.size ?_ ?_ ?_); rfl; rfl; rfl; exact (HREC.out.byte (35 + K) (by omega) _ (y ^^^ x) HXR.out); intro l' C' hl' HC')
      | ((with_reducible refine store_agg (f := cV) (l := zrec) (l' := l') (t := 40) (C := C') (isRec_agg hl') (.tmp 6) (.tmp 79) ?_ ?_ (w.heap.size + 1) ?_ ?_ ?_ ?_ ?_ cV_one ?_); rfl; rfl; rfl; exact HC'.out; rfl; exact (HZO.out.set_other (b' := w.heap.size) (by omega) _ _); exact hl'.length; intro w9 hR9 hG9 hz9))
    refine bodyPost_ret (v := .agg (l'.map cV).toArray) (results_agg (l := l') (f := cV) rfl _ (isRec_agg hl') (w.heap.size + 1) 0 rfl hR9.at) rfl ?_
    exact ⟨_, l', rfl, hl', Lib.hid rfl, (Below.setCell HBO.out (p := ⟨w.heap.size, 35 + K, none⟩) (Nat.le_refl _) _).grown hG9 (by have := HBO.out.size; simp; omega) (fun k e => by cases e; omega)⟩
  · have hK : what.toNat / 6 % 32 < 32 := by omega
    have n1 : ((what.toNat : Int) / 6 % 32).toNat = what.toNat / 6 % 32 := by omega
    have p1 : 0 ≤ (what.toNat : Int) / 6 % 32 := by omega
    have p2 : (what.toNat : Int) / 6 % 32 < 32 := by omega
    generalize what.toNat / 6 % 32 = K at hK n1
    obtain ⟨y, hy⟩ := hl.at_byte (67 + K) (by omega) (by omega)
    have c0 : W.cell? ⟨w.heap.size, 67 + K, none⟩ = some (.int .u8 (y.toNat : Int)) := by rw [hR0.cell?, hy]; rfl
    have f0 := hR0.frozen (67 + K)
    have HXR := Lib.hid (Words.u8_xor y x)
    clear hy
    have t0 : ((what.toNat : Int) % 6 == 0) = false := by rw [beq_eq_false_iff_ne]; omega
    have t1 : ((what.toNat : Int) % 6 == 1) = false := by rw [beq_eq_false_iff_ne]; omega
    have t2 : ((what.toNat : Int) % 6 == 2) = false := by rw [beq_eq_false_iff_ne]; omega
    have t3 : ((what.toNat : Int) % 6 == 3) = false := by rw [beq_eq_false_iff_ne]; omega
    have t4 : ((what.toNat : Int) % 6 == 4) = false := by rw [beq_eq_false_iff_ne]; omega
    have t5 : ((what.toNat : Int) % 6 == 5) = true := by rw [beq_iff_eq]; omega
    clear hR0 h HCASE hl HL HC hw8
    go_wp2_with (first
      | ((with_reducible refine load_rec (.tmp 3) ?_ ?_ w.heap.size ?_ ?_ ?_); rfl; rfl; rfl; exact (HREC.out.byte (67 + K) (by omega) _ (y ^^^ x) HXR.out); intro l' C' hl' HC')
      | ((with_reducible refine store_agg (f := cV) (l := zrec) (l' := l') (t := 40) (C := C') (isRec_agg hl') (.tmp 6) (.tmp 79) ?_ ?_ (w.heap.size + 1) ?_ ?_ ?_ ?_ ?_ cV_one ?_); rfl; rfl; rfl; exact HC'.out; rfl; exact (HZO.out.set_other (b' := w.heap.size) (by omega) _ _); exact hl'.length; intro w9 hR9 hG9 hz9))
    refine bodyPost_ret (v := .agg (l'.map cV).toArray) (results_agg (l := l') (f := cV) rfl _ (isRec_agg hl') (w.heap.size + 1) 0 rfl hR9.at) rfl ?_
    exact ⟨_, l', rfl, hl', Lib.hid rfl, (Below.setCell HBO.out (p := ⟨w.heap.size, 67 + K, none⟩) (Nat.le_refl _) _).grown hG9 (by have := HBO.out.size; simp; omega) (fun k e => by cases e; omega)⟩
end Go.Proofs.YteglnpanimgelaaGreatDoor
