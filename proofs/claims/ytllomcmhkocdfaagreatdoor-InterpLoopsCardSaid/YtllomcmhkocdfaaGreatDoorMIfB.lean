/- The interpreter's effects: split. -/
import Derived.Test.YtllomcmhkocdfaaGreatDoorMTrim
import Derived.Test.YtllomcmhkocdfaaGreatDoorMShelf
import Derived.WalkMore
namespace Go.Proofs.YtllomcmhkocdfaaGreatDoor
open Go Go.RowKit Mem
set_option maxRecDepth 100000

theorem storeH1 {P : Program} {ops : Array Oper} {o : Oper} {a : Act} {w : World} {K : Act → World → Prop} {Q : Exit → Act → World → Prop} {Z : Prop} {ty : TypeId} (x y : Operand) (hw : Region.wanted o (yielded ops a.tmps) = true) (ho : o.op = .store ty x y) (hd : o.dst = none) (b i : Nat) (v : Value)
    (hr : (Instr.storeAt ty (a.eval x) (a.eval y)).run P w = .ok () (w.setCell ⟨b, i, none⟩ v)) (hk : K a (w.setCell ⟨b, i, none⟩ v)) : if Region.wanted o (yielded ops a.tmps) = true then Oper.wp P o a w K Q else Z := by
  rw [if_pos hw]
  unfold Oper.wp execOp
  simp only [ho, Sem.run_bind, Sem.run_pure, Result.andThen_ok, hr]
  show K (a.put o.dst undef) _
  rw [hd]
  exact hk
def idxB (l : List UInt8) (y : UInt8) : Int := Lib.indexByte l y
theorem bytesOf_nums (l : List UInt8) : Lib.bytesOf (l.map fun x => (x.toNat : Int)) = l := by
  unfold Lib.bytesOf
  rw [List.map_map]
  conv => rhs; rw [← List.map_id l]
  apply List.map_congr_left
  intro x _
  simp
/-- bytes.Index of one byte -/
theorem rIndex1 (w : World) (p : Option Addr) (n k : Nat) (l : List UInt8) (y : UInt8) (q : Sl) (hu : Rd u8V w (.slice p n k) l) (hn : Nrm (.slice p n k)) (hq : Rd u8V w q.v [y]) :
    Calls Tryz.prog 52 #[.slice p n k, q.v] w fun e w' => e = .returned (.int .i64 (idxB l y)) ∧ w' = w := by
  have hq1 := hq
  obtain ⟨b2, o2, d, hqe, hc2⟩ : ∃ b2 o2 d, q.v = .slice (some ⟨b2, o2, none⟩) 1 d ∧ w.cell? ⟨b2, o2, none⟩ = some (.int .u8 (y.toNat : Int)) := by
    rcases hq with ⟨_, _, h⟩ | ⟨b2, o2, d, h, _, ha, _⟩
    · cases h
    · exact ⟨b2, o2, d, h, ha 0 (by simp)⟩
  rw [hqe]
  have hy : ((y.toNat : Int)).toNat.toUInt8 = y := by simp
  cases p with
  | none =>
    rcases hu with ⟨q2, he, rfl⟩ | ⟨_, _, _, he, _⟩
    · injection he with e1 e2 e3
      subst e2 e3
      exact (Tryz.bytes_Index_one_nil b2 o2 d (y.toNat : Int) w hc2).mono fun e w' h => ⟨h.1, h.2⟩
    · simp at he
  | some ad =>
    obtain ⟨b, o, rfl⟩ := hn ad n k rfl
    have hnl := hu.len
    have hc : ∀ i, i < n → w.cell? ⟨b, o + i, none⟩ = some (.int .u8 ((l.map fun x => (x.toNat : Int)).getD i 0)) := by
      intro i hi
      rcases hu with ⟨q2, he, rfl⟩ | ⟨b', o', cap, he, _, ha, _⟩
      · simp at hnl; omega
      · injection he with e1 e2 e3
        injection e1 with e1
        injection e1 with e1 e4
        subst e1 e4
        rw [ha i (by omega)]
        rw [List.getD_eq_getElem?_getD, List.getElem?_map, List.getElem?_eq_getElem (by omega)]
        rfl
    refine (Tryz.bytes_Index_one b o n k b2 o2 d (l.map fun x => (x.toNat : Int)) (y.toNat : Int) w (by simp [hnl]) hc hc2).mono fun e w' h => ⟨?_, h.2⟩
    rw [h.1, bytesOf_nums, hy]
    rfl
theorem idxB_ge (l : List UInt8) (y : UInt8) : -1 ≤ idxB l y := Lib.indexByte_ge l y
theorem idxB_lt (l : List UInt8) (y : UInt8) (k : Nat) (h : idxB l y = k) : k < l.length := by
  obtain ⟨h1, _⟩ := Lib.indexByte_some (l := l) (c := y) (o := k) h
  exact (List.getElem?_eq_some_iff.1 h1).1
set_option maxHeartbeats 8000000 in
theorem iSplit {B0 : Nat} {w : World} {K : XK} {V : XV} {x : Ex} (a b z : Nat) (B : Sl) (els : Int) (y : UInt8) (ha : a < 12) (hb : b < 12) (hz : z < 12) (hbz : b ≠ z) (hB : Rd u8V w B.v [y]) (h : XW B0 w K V x) (C : Array Value) (HC : Hid (C = ((stSplit a b z B false els [y]).cs.map oV).toArray)) :
    Calls Tryz.prog 35 #[.pointer (some ⟨K.xb, 0, none⟩), .agg C] w fun e w' => (idxB (x.s.getD a []) y = -1 ∧ e = .returned (.bool false) ∧ Nxt B0 w w' K V V x) ∨ ∃ (k : Nat) (u v : OC), idxB (x.s.getD a []) y = (k : Int) ∧ e = .returned (.bool true) ∧ Nxt B0 w w' K V { V with us := (V.us.set b u).set z v } { x with s := (x.s.set b ((x.s.getD a []).take k)).set z ((x.s.getD a []).drop (k + 1)) } := by
  obtain ⟨pa, na, ka, Ha, La⟩ : ∃ p n k, Hid ((V.us.getD a on).1 = .slice p n k) ∧ Hid (n = (x.s.getD a []).length) := by
    obtain ⟨p, k, hu⟩ := (h.dat a ha).1.slice
    exact ⟨p, _, k, Lib.hid hu, Lib.hid rfl⟩
  obtain ⟨Bp, Bn, Bc⟩ := B
  obtain rfl : Bn = 1 := (show Rd u8V w (.slice Bp Bn Bc) [y] from hB).len
  have HDA := Lib.hid (h.dat a ha)
  have HRB := Lib.hid hB
  have hmb := h.str.lt
  have hxm := h.sep.1
  have hxw := h.row.lt
  clear hB
  go_enter Tryz.func35, Tryz.ntmps35
  go_upto_region 1 with (fail)
  obtain ⟨W, hW, hR, hB⟩ : ∃ W, w.alloc (.cells C 45) = W ∧ Row oV W w.heap.size 45 (stSplit a b z ⟨Bp, 1, Bc⟩ false els [y]).cs ∧ Below w.heap.size w W := ⟨_, rfl, by rw [HC.out]; exact Row.new _ _ rfl, (Below.refl _ _).alloc (Nat.le_refl _) _⟩
  rw [hW]
  clear hW
  have HK := Lib.hid (h.keep hB)
  have HB := Lib.hid hB
  have HF : Hid (∀ Z, Below W.heap.size W Z → Z.cell? ⟨K.xb, 2, none⟩ = some (.slice (some ⟨K.mb, 0, none⟩) 12 12) ∧ Z.cell? ⟨w.heap.size, 1, none⟩ = some (.int .i64 a) ∧ Z.cell? ⟨w.heap.size, 2, none⟩ = some (.int .i64 b) ∧ Z.cell? ⟨w.heap.size, 3, none⟩ = some (.int .i64 z) ∧ Z.cell? ⟨w.heap.size, 7, none⟩ = some (.slice Bp 1 Bc) ∧ Z.cell? ⟨w.heap.size, 8, none⟩ = some (.bool false) ∧ Z.cell? ⟨K.mb, a, none⟩ = some (.slice pa na ka) ∧ Z.cell? ⟨K.mb, b, none⟩ = some (V.us.getD b on).1 ∧ Z.frozen? ⟨K.mb, b, none⟩ = false ∧ Z.cell? ⟨K.mb, z, none⟩ = some (V.us.getD z on).1 ∧ Z.frozen? ⟨K.mb, z, none⟩ = false) := Lib.hid fun Z hZ => by
    have hh := HK.out.keep hZ
    have hr := hR.below hZ hR.lt
    exact ⟨by rw [hh.row.cell?]; rfl, by rw [hr.cell?]; rfl, by rw [hr.cell?]; rfl, by rw [hr.cell?]; rfl, by rw [hr.cell?]; rfl, by rw [hr.cell?]; rfl, hh.cellS ha Ha.out, hh.cellX hb, hh.str.frozen b, hh.cellX hz, hh.str.frozen z⟩
  have hlx := HK.out.row.lt
  have hlr := hR.lt
  clear hR hB h
  have hai : (a : Int) < 12 := by omega
  have hbi : (b : Int) < 12 := by omega
  have hzi : (z : Int) < 12 := by omega
  refine region_headsT (S := fun Z => Below W.heap.size W Z) 8 rfl (by kernel_rfl) (Below.refl _ _).drew fun hS => ?_
  refine headsT_takeD (i := 0) (d := 7) (v := .pointer (some ⟨K.xb, 0, none⟩)) (by kernel_rfl) rfl rfl (by omega) (by kernel_rfl) (by kernel_rfl) (fun c a w h => h) (yieldsIf_op rfl (fun w => by first | rfl | kernel_rfl | (go_simp; done))) hS ?_
  simp only [List.setIfInBounds_toArray, List.set_cons_succ, List.set_cons_zero]
  refine headsT_takeD (i := 1) (d := 8) (v := .pointer (some ⟨K.xb, 0, none⟩)) (by kernel_rfl) rfl rfl (by omega) (by kernel_rfl) (by kernel_rfl) (fun c a w h => h) (yieldsIf_op rfl (fun w => by first | rfl | kernel_rfl | (go_simp; done))) hS ?_
  simp only [List.setIfInBounds_toArray, List.set_cons_succ, List.set_cons_zero]
  refine headsT_takeD (i := 2) (d := 9) (v := .pointer (some ⟨K.xb, 2, none⟩)) (by kernel_rfl) rfl rfl (by omega) (by kernel_rfl) (by kernel_rfl) (fun c a w h => h) (yieldsIf_op rfl (fun w => by first | rfl | kernel_rfl | (go_simp; done))) hS ?_
  simp only [List.setIfInBounds_toArray, List.set_cons_succ, List.set_cons_zero]
  refine headsT_takeD (i := 3) (d := 10) (v := .slice (some ⟨K.mb, 0, none⟩) 12 12) (by kernel_rfl) rfl rfl (by omega) (by kernel_rfl) (by kernel_rfl) (fun c a w h => h) (.inl ⟨by first | rfl | kernel_rfl, fun W' h => by have q0 := (HF.out W' h).1; go_simp⟩) hS ?_
  simp only [List.setIfInBounds_toArray, List.set_cons_succ, List.set_cons_zero]
  refine headsT_takeD (i := 4) (d := 11) (v := .pointer (some ⟨w.heap.size, 1, none⟩)) (by kernel_rfl) rfl rfl (by omega) (by kernel_rfl) (by kernel_rfl) (fun c a w h => h) (yieldsIf_op rfl (fun w => by first | rfl | kernel_rfl | (go_simp; done))) hS ?_
  simp only [List.setIfInBounds_toArray, List.set_cons_succ, List.set_cons_zero]
  refine headsT_takeD (i := 5) (d := 12) (v := .int .i64 a) (by kernel_rfl) rfl rfl (by omega) (by kernel_rfl) (by kernel_rfl) (fun c a w h => h) (.inl ⟨by first | rfl | kernel_rfl, fun W' h => by have q0 := (HF.out W' h).2.1; go_simp⟩) hS ?_
  simp only [List.setIfInBounds_toArray, List.set_cons_succ, List.set_cons_zero]
  refine headsT_takeD (i := 6) (d := 13) (v := .pointer (some ⟨K.mb, a, none⟩)) (by kernel_rfl) rfl rfl (by omega) (by kernel_rfl) (by kernel_rfl) (fun c a w h => h) (yieldsIf_op rfl (fun w => by go_simp)) hS ?_
  simp only [List.setIfInBounds_toArray, List.set_cons_succ, List.set_cons_zero]
  refine headsT_takeD (i := 7) (d := 14) (v := .slice pa na ka) (by kernel_rfl) rfl rfl (by omega) (by kernel_rfl) (by kernel_rfl) (fun c a w h => h) (.inl ⟨by first | rfl | kernel_rfl, fun W' h => by have q0 := (HF.out W' h).2.2.2.2.2.2.1; go_simp⟩) hS ?_
  simp only [List.setIfInBounds_toArray, List.set_cons_succ, List.set_cons_zero]
  refine headsT_tail (by kernel_rfl) ?_
  simp only [List.drop]
  obtain ⟨-, -, -, -, e7, e8, -⟩ := HF.out _ hS
  go_wp2_with fail
  have HRd : Hid (Rd u8V W.drew (.slice pa na ka) (x.s.getD a []) ∧ Nrm (.slice pa na ka)) := Lib.hid (by
    have hd := HDA.out
    have h1 := (hd.1.below HB.out).below hS
    rw [Ha.out] at h1
    exact ⟨h1, by rw [← Ha.out]; exact hd.2.2.2⟩)
  refine (rIndex1 W.drew pa na ka (x.s.getD a []) y ⟨Bp, 1, Bc⟩ HRd.out.1 HRd.out.2 ((HRB.out.below HB.out).below hS)).mono ?_
  rintro e Wi ⟨rfl, rfl⟩
  have HGE := Lib.hid (idxB_ge (x.s.getD a []) y)
  have HLT := Lib.hid (idxB_lt (x.s.getD a []) y)
  obtain ⟨ix, Hix⟩ : ∃ ix, Hid (idxB (x.s.getD a []) y = ix) := ⟨_, Lib.hid rfl⟩
  rw [Hix.out] at HGE HLT ⊢
  by_cases hix : ix = -1
  · subst hix
    have hX := HK.out.keep hS
    have hB2 := HB.out.trans (hS.mono HB.out.size)
    clear HF HK HRd HDA
    go_wp2_with fail
    go_ret
    exact .inl ⟨Hix.out, rfl, hX, Upd.of_below _ hB2 (Nat.le_refl _), fun _ e => .inl e⟩
  · obtain ⟨k, rfl⟩ : ∃ k : Nat, ix = k := ⟨ix.toNat, by have := HGE.out; omega⟩
    have hkn : k < na := by rw [La.out]; exact HLT.out k rfl
    have hna4 : na ≤ 4096 := by rw [La.out]; exact HDA.out.2.1
    have hki : ¬ ((k : Int) < 0) := by omega
    have hkd : decide ((k : Int) < 0) = false := by simp
    clear hix
    go_upto_region 7 with fail
    have hX := HK.out.keep hS
    have hB2 := HB.out.trans (hS.mono HB.out.size)
    obtain ⟨c2, -, cb, cz, c7, -, -, -, fb, -, -⟩ := HF.out _ hS
    have hka : na ≤ ka := by
      rcases HRd.out.1 with ⟨_, he, _⟩ | ⟨_, _, _, he, hc, _, _⟩
      · injection he with _ e2 e3; omega
      · injection he with _ e2 e3; omega
    have hmlt := hX.str.lt
    have hcb := hX.cellX hb
    obtain ⟨ub, hub⟩ : ∃ u, u = (V.us.getD b on).1 := ⟨_, rfl⟩
    rw [← hub] at hcb
    clear hub
    clear HF HK HB HRd e7 e8
    generalize W.drew = W1 at hX hB2 c2 cb cz c7 fb hmlt hcb ⊢
    clear hS hlr hlx HRB
    have hwk : IntKind.i64.wrap ((k : Int) + 1) = (k : Int) + 1 := wI' _ (by omega) (by omega)
    obtain ⟨pl, kl, HsL⟩ : ∃ p' k', Hid (sliced pa 0 k ka 1 = .slice p' k k') := ⟨_, _, Lib.hid rfl⟩
    obtain ⟨nr, Hnr⟩ : ∃ n, Hid (na - (k + 1) = n) := ⟨_, Lib.hid rfl⟩
    obtain ⟨pr, kr, HsR⟩ : ∃ p' k', Hid (sliced pa (k + 1) na ka 1 = .slice p' nr k') := ⟨_, _, Lib.hid (by rw [← Hnr.out]; rfl)⟩
    have hkn1 : k + 1 ≤ na := hkn
    have hkk : k ≤ ka := by omega
    refine region_headsT (S := fun Z => Z.cell? ⟨K.xb, 2, none⟩ = some (.slice (some ⟨K.mb, 0, none⟩) 12 12) ∧ Z.cell? ⟨w.heap.size, 2, none⟩ = some (.int .i64 b) ∧ Z.cell? ⟨w.heap.size, 3, none⟩ = some (.int .i64 z) ∧ Z.cell? ⟨w.heap.size, 7, none⟩ = some (.slice Bp 1 Bc)) 24 rfl (by kernel_rfl) ⟨c2, cb, cz, c7⟩ fun hS2 => ?_
    refine headsT_takeD (i := 0) (d := 27) (v := .pointer (some ⟨K.xb, 0, none⟩)) (by kernel_rfl) rfl rfl (by omega) (by kernel_rfl) (by kernel_rfl) (fun c a w h => h) (yieldsIf_op rfl (fun w => by first | rfl | kernel_rfl | (go_simp; done))) hS2 ?_
    simp only [List.setIfInBounds_toArray, List.set_cons_succ, List.set_cons_zero]
    refine headsT_takeD (i := 1) (d := 28) (v := .pointer (some ⟨K.xb, 0, none⟩)) (by kernel_rfl) rfl rfl (by omega) (by kernel_rfl) (by kernel_rfl) (fun c a w h => h) (yieldsIf_op rfl (fun w => by first | rfl | kernel_rfl | (go_simp; done))) hS2 ?_
    simp only [List.setIfInBounds_toArray, List.set_cons_succ, List.set_cons_zero]
    refine headsT_takeD (i := 2) (d := 29) (v := .pointer (some ⟨K.xb, 2, none⟩)) (by kernel_rfl) rfl rfl (by omega) (by kernel_rfl) (by kernel_rfl) (fun c a w h => h) (yieldsIf_op rfl (fun w => by first | rfl | kernel_rfl | (go_simp; done))) hS2 ?_
    simp only [List.setIfInBounds_toArray, List.set_cons_succ, List.set_cons_zero]
    refine headsT_takeD (i := 3) (d := 30) (v := .slice (some ⟨K.mb, 0, none⟩) 12 12) (by kernel_rfl) rfl rfl (by omega) (by kernel_rfl) (by kernel_rfl) (fun c a w h => h) (.inl ⟨by first | rfl | kernel_rfl, fun W' h => by obtain ⟨q0, q1, q2, q3⟩ := h; go_simp⟩) hS2 ?_
    simp only [List.setIfInBounds_toArray, List.set_cons_succ, List.set_cons_zero]
    refine headsT_takeD (i := 4) (d := 31) (v := .pointer (some ⟨w.heap.size, 2, none⟩)) (by kernel_rfl) rfl rfl (by omega) (by kernel_rfl) (by kernel_rfl) (fun c a w h => h) (yieldsIf_op rfl (fun w => by first | rfl | kernel_rfl | (go_simp; done))) hS2 ?_
    simp only [List.setIfInBounds_toArray, List.set_cons_succ, List.set_cons_zero]
    refine headsT_takeD (i := 5) (d := 32) (v := .int .i64 b) (by kernel_rfl) rfl rfl (by omega) (by kernel_rfl) (by kernel_rfl) (fun c a w h => h) (.inl ⟨by first | rfl | kernel_rfl, fun W' h => by obtain ⟨q0, q1, q2, q3⟩ := h; go_simp⟩) hS2 ?_
    simp only [List.setIfInBounds_toArray, List.set_cons_succ, List.set_cons_zero]
    refine headsT_takeD (i := 6) (d := 33) (v := .pointer (some ⟨K.xb, 0, none⟩)) (by kernel_rfl) rfl rfl (by omega) (by kernel_rfl) (by kernel_rfl) (fun c a w h => h) (yieldsIf_op rfl (fun w => by first | rfl | kernel_rfl | (go_simp; done))) hS2 ?_
    simp only [List.setIfInBounds_toArray, List.set_cons_succ, List.set_cons_zero]
    refine headsT_takeD (i := 7) (d := 34) (v := .pointer (some ⟨K.xb, 0, none⟩)) (by kernel_rfl) rfl rfl (by omega) (by kernel_rfl) (by kernel_rfl) (fun c a w h => h) (yieldsIf_op rfl (fun w => by first | rfl | kernel_rfl | (go_simp; done))) hS2 ?_
    simp only [List.setIfInBounds_toArray, List.set_cons_succ, List.set_cons_zero]
    refine headsT_takeD (i := 8) (d := 35) (v := .pointer (some ⟨K.xb, 2, none⟩)) (by kernel_rfl) rfl rfl (by omega) (by kernel_rfl) (by kernel_rfl) (fun c a w h => h) (yieldsIf_op rfl (fun w => by first | rfl | kernel_rfl | (go_simp; done))) hS2 ?_
    simp only [List.setIfInBounds_toArray, List.set_cons_succ, List.set_cons_zero]
    refine headsT_takeD (i := 9) (d := 36) (v := .slice (some ⟨K.mb, 0, none⟩) 12 12) (by kernel_rfl) rfl rfl (by omega) (by kernel_rfl) (by kernel_rfl) (fun c a w h => h) (.inl ⟨by first | rfl | kernel_rfl, fun W' h => by obtain ⟨q0, q1, q2, q3⟩ := h; go_simp⟩) hS2 ?_
    simp only [List.setIfInBounds_toArray, List.set_cons_succ, List.set_cons_zero]
    refine headsT_takeD (i := 10) (d := 37) (v := .pointer (some ⟨w.heap.size, 3, none⟩)) (by kernel_rfl) rfl rfl (by omega) (by kernel_rfl) (by kernel_rfl) (fun c a w h => h) (yieldsIf_op rfl (fun w => by first | rfl | kernel_rfl | (go_simp; done))) hS2 ?_
    simp only [List.setIfInBounds_toArray, List.set_cons_succ, List.set_cons_zero]
    refine headsT_takeD (i := 11) (d := 38) (v := .int .i64 z) (by kernel_rfl) rfl rfl (by omega) (by kernel_rfl) (by kernel_rfl) (fun c a w h => h) (.inl ⟨by first | rfl | kernel_rfl, fun W' h => by obtain ⟨q0, q1, q2, q3⟩ := h; go_simp⟩) hS2 ?_
    simp only [List.setIfInBounds_toArray, List.set_cons_succ, List.set_cons_zero]
    refine headsT_takeD (i := 12) (d := 39) (v := .slice pa na ka) (by kernel_rfl) rfl rfl (by omega) (by kernel_rfl) (by kernel_rfl) (fun c a w h => h) (yieldsIf_op rfl (fun w => by first | rfl | kernel_rfl | (go_simp; done))) hS2 ?_
    simp only [List.setIfInBounds_toArray, List.set_cons_succ, List.set_cons_zero]
    refine headsT_takeD (i := 13) (d := 40) (v := .int .i64 (k : Int)) (by kernel_rfl) rfl rfl (by omega) (by kernel_rfl) (by kernel_rfl) (fun c a w h => h) (yieldsIf_op rfl (fun w => by first | rfl | kernel_rfl | (go_simp; done))) hS2 ?_
    simp only [List.setIfInBounds_toArray, List.set_cons_succ, List.set_cons_zero]
    refine headsT_takeD (i := 14) (d := 41) (v := .slice pl k kl) (by kernel_rfl) rfl rfl (by omega) (by kernel_rfl) (by kernel_rfl) (fun c a w h => h) (yieldsIf_op rfl (fun w => (exec_high (.tmp 39) (.tmp 40) rfl underB sizeB pa na ka k rfl rfl hkk w).trans (by rw [HsL.out]))) hS2 ?_
    simp only [List.setIfInBounds_toArray, List.set_cons_succ, List.set_cons_zero]
    refine headsT_takeD (i := 15) (d := 42) (v := .slice pa na ka) (by kernel_rfl) rfl rfl (by omega) (by kernel_rfl) (by kernel_rfl) (fun c a w h => h) (yieldsIf_op rfl (fun w => by first | rfl | kernel_rfl | (go_simp; done))) hS2 ?_
    simp only [List.setIfInBounds_toArray, List.set_cons_succ, List.set_cons_zero]
    refine headsT_takeD (i := 16) (d := 43) (v := .int .i64 (k : Int)) (by kernel_rfl) rfl rfl (by omega) (by kernel_rfl) (by kernel_rfl) (fun c a w h => h) (yieldsIf_op rfl (fun w => by first | rfl | kernel_rfl | (go_simp; done))) hS2 ?_
    simp only [List.setIfInBounds_toArray, List.set_cons_succ, List.set_cons_zero]
    refine headsT_takeD (i := 17) (d := 44) (v := .pointer (some ⟨w.heap.size, 7, none⟩)) (by kernel_rfl) rfl rfl (by omega) (by kernel_rfl) (by kernel_rfl) (fun c a w h => h) (yieldsIf_op rfl (fun w => by first | rfl | kernel_rfl | (go_simp; done))) hS2 ?_
    simp only [List.setIfInBounds_toArray, List.set_cons_succ, List.set_cons_zero]
    refine headsT_takeD (i := 18) (d := 45) (v := .slice Bp 1 Bc) (by kernel_rfl) rfl rfl (by omega) (by kernel_rfl) (by kernel_rfl) (fun c a w h => h) (.inl ⟨by first | rfl | kernel_rfl, fun W' h => by obtain ⟨q0, q1, q2, q3⟩ := h; go_simp⟩) hS2 ?_
    simp only [List.setIfInBounds_toArray, List.set_cons_succ, List.set_cons_zero]
    refine headsT_takeD (i := 19) (d := 46) (v := .int .i64 1) (by kernel_rfl) rfl rfl (by omega) (by kernel_rfl) (by kernel_rfl) (fun c a w h => h) (yieldsIf_op rfl (fun w => by first | rfl | kernel_rfl | (go_simp; done))) hS2 ?_
    simp only [List.setIfInBounds_toArray, List.set_cons_succ, List.set_cons_zero]
    refine headsT_takeD (i := 20) (d := 47) (v := .int .i64 ((k + 1 : Nat) : Int)) (by kernel_rfl) rfl rfl (by omega) (by kernel_rfl) (by kernel_rfl) (fun c a w h => h) (yieldsIf_op rfl (fun w => by go_simp)) hS2 ?_
    simp only [List.setIfInBounds_toArray, List.set_cons_succ, List.set_cons_zero]
    refine headsT_takeD (i := 21) (d := 48) (v := .slice pr nr kr) (by kernel_rfl) rfl rfl (by omega) (by kernel_rfl) (by kernel_rfl) (fun c a w h => h) (yieldsIf_op rfl (fun w => (exec_low (.tmp 42) (.tmp 47) rfl underB sizeB pa na ka (k + 1) rfl rfl hkn1 w).trans (by rw [HsR.out]))) hS2 ?_
    simp only [List.setIfInBounds_toArray, List.set_cons_succ, List.set_cons_zero]
    refine headsT_takeD (i := 22) (d := 49) (v := .pointer (some ⟨K.mb, b, none⟩)) (by kernel_rfl) rfl rfl (by omega) (by kernel_rfl) (by kernel_rfl) (fun c a w h => h) (yieldsIf_op rfl (fun w => by go_simp)) hS2 ?_
    simp only [List.setIfInBounds_toArray, List.set_cons_succ, List.set_cons_zero]
    refine headsT_ready (rs := [23]) (by kernel_rfl) (by simp) (AllReadyT.cons (by omega) rfl (fun K' hK => ?_) AllReadyT.nil)
    have hcb' : W1.drew.cell? ⟨K.mb, b, none⟩ = some ub := hcb
    have fb' : W1.drew.frozen? ⟨K.mb, b, none⟩ = false := fb
    refine storeH1 (.tmp 49) (.tmp 41) rfl rfl rfl K.mb b (.slice pl k kl) (by go_simp) ?_
    have hXd := hX.keep ((Below.refl W1.heap.size W1).drew)
    have hBd := hB2.trans ((Below.refl W1.heap.size W1).drew.mono hB2.size)
    have hD1 : Dat W1.drew K V ⟨.slice pl k kl, rfl⟩ ((x.s.getD a []).take k) := by
      have h1 := (hXd.dat a ha).slc Ha.out 0 k (Nat.zero_le _) (by omega)
      rw [show (⟨sliced pa 0 k ka 1, rfl⟩ : OC) = ⟨.slice pl k kl, rfl⟩ from Subtype.ext HsL.out, List.drop_zero, Nat.sub_zero] at h1
      exact h1
    have hD2 : Dat W1.drew K V ⟨.slice pr nr kr, rfl⟩ ((x.s.getD a []).drop (k + 1)) := by
      have h1 := (hXd.dat a ha).slc Ha.out (k + 1) na hkn1 (Nat.le_refl _)
      rw [show (⟨sliced pa (k + 1) na ka 1, rfl⟩ : OC) = ⟨.slice pr nr kr, rfl⟩ from Subtype.ext HsR.out, List.take_of_length_le (by rw [List.length_drop, ← La.out]; exact Nat.le_refl _)] at h1
      exact h1
    have hX2 := hXd.setS b ⟨.slice pl k kl, rfl⟩ _ hD1
    have hD3 := hD2.set (V' := { V with us := V.us.set b ⟨.slice pl k kl, rfl⟩ }) (.inr (.inl rfl)) b (.slice pl k kl) (fun _ _ e => e)
    have hU2 := (Upd.of_below (Wr K V) hBd (Nat.le_refl _)).set (b := K.mb) (.inl (.inr (.inl rfl))) b (.slice pl k kl)
    have hcz := hX2.cellX hz
    have fz := hX2.str.frozen z
    obtain ⟨uz, huz⟩ : ∃ u, u = ((V.us.set b ⟨.slice pl k kl, rfl⟩).getD z on).1 := ⟨_, rfl⟩
    rw [← huz] at hcz
    clear huz
    have hne : K.mb ≠ w.heap.size := by omega
    have hcell : ∀ j, (W1.drew.setCell ⟨K.mb, b, none⟩ (.slice pl k kl)).cell? ⟨w.heap.size, j, none⟩ = W1.drew.cell? ⟨w.heap.size, j, none⟩ := fun j => World.cell?_of_block (a := ⟨w.heap.size, j, none⟩) (Below.heap_setCell _ _ _ _ (Ne.symm hne))
    have hS3 := And.intro (show (W1.drew.setCell ⟨K.mb, b, none⟩ (.slice pl k kl)).cell? ⟨K.xb, 2, none⟩ = some (.slice (some ⟨K.mb, 0, none⟩) 12 12) by rw [hX2.row.cell?]; rfl) (And.intro ((hcell 2).trans hS2.2.1) (And.intro ((hcell 3).trans hS2.2.2.1) ((hcell 7).trans hS2.2.2.2)))
    refine hK.out _ _ hS3 fun _ => ?_
    clear hK hcell
    refine headsT_tail (by kernel_rfl) ?_
    simp only [List.drop]
    have HX2 := Lib.hid (And.intro hX2 (And.intro hD3 hU2))
    clear hX2 hD3 hU2 hXd hBd hD1 hD2 hX hB2 hS2 hS3 c2 cb cz c7 fb hcb fb' hcb'
    generalize (W1.drew.setCell ⟨K.mb, b, none⟩ (.slice pl k kl)) = W2 at HX2 hcz fz ⊢
    go_wp2_with fail
    go_ret
    exact .inr ⟨k, ⟨.slice pl k kl, rfl⟩, ⟨.slice pr nr kr, rfl⟩, Hix.out, rfl, HX2.out.1.setS z ⟨.slice pr nr kr, rfl⟩ _ HX2.out.2.1, HX2.out.2.2.set (b := K.mb) (.inl (.inr (.inl rfl))) z _, fun _ e => .inl e⟩
end Go.Proofs.YtllomcmhkocdfaaGreatDoor
