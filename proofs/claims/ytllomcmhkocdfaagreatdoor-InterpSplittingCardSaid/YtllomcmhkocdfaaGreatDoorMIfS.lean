/- The interpreter's effects: split at any separator, from both ends. -/
import Derived.Test.YtllomcmhkocdfaaGreatDoorMIfB
import Derived.Test.YtllomcmhkocdfaaGreatDoorMLastB
import Derived.Lib.IndexMore
namespace Go.Proofs.YtllomcmhkocdfaaGreatDoor
open Go Go.RowKit Mem
set_option maxRecDepth 100000

theorem cells_of_rd {w : World} {ad : Addr} {n k : Nat} {l : List UInt8} (hu : Rd u8V w (.slice (some ad) n k) l) : ∀ i, i < n → w.cell? (ad.add i) = some (.int .u8 ((l.map fun x => (x.toNat : Int)).getD i 0)) := by
  intro i hi
  have hl := hu.len
  rcases hu with ⟨q2, he, rfl⟩ | ⟨b', o', cap, he, _, ha, _⟩
  · simp at hl; omega
  · injection he with e1 e2 e3
    injection e1 with e1
    subst e1
    rw [show (Addr.add ⟨b', o', none⟩ i) = ⟨b', o' + i, none⟩ by unfold Addr.add; split <;> simp_all, ha i (by omega), List.getD_eq_getElem?_getD, List.getElem?_map, List.getElem?_eq_getElem (by omega)]
    rfl
theorem rd_cap {w : World} {p : Option Addr} {n k : Nat} {l : List UInt8} (hu : Rd u8V w (.slice p n k) l) : n ≤ k := by
  rcases hu with ⟨_, he, _⟩ | ⟨_, _, _, he, hc, _, _⟩
  · injection he with _ e2 e3; omega
  · injection he with _ e2 e3; omega
/-- bytes.Index of a separator that is not empty -/
theorem rIndex (w : World) (p : Option Addr) (n k : Nat) (l sep : List UInt8) (q : Sl) (hu : Rd u8V w (.slice p n k) l) (hn : Nrm (.slice p n k)) (hq : Rd u8V w q.v sep) (h1 : sep ≠ []) (h8 : sep.length ≤ 8) (hs : n < 4294967281) (hg : 1 < sep.length → ∃ m, w.cell? ⟨0, 0, none⟩ = some (.int .i64 m)) :
    Calls Tryz.prog 52 #[.slice p n k, q.v] w fun e w' => e = .returned (.int .i64 (Lib.index l sep)) ∧ ∃ q, w' = w.drewN q := by
  by_cases e1 : sep.length = 1
  · obtain ⟨y, rfl⟩ := List.length_eq_one_iff.1 e1
    refine (rIndex1 w p n k l y q hu hn hq).mono ?_
    rintro e w' ⟨rfl, rfl⟩
    exact ⟨by rw [Lib.index_one]; rfl, 0, rfl⟩
  · obtain ⟨qp, m, qc⟩ := q
    have hm := (show Rd u8V w (.slice qp m qc) sep from hq).len
    have hmp : 0 < m := by rw [hm]; exact List.length_pos_iff.2 h1
    obtain ⟨b2, o2, rfl, -, hmc, -, -⟩ := (show Rd u8V w (.slice qp m qc) sep from hq).nonempty hmp
    cases p with
    | none =>
      have hl := hu.len
      rcases hu with ⟨q2, he, rfl⟩ | ⟨_, _, _, he, _⟩
      · injection he with e1 e2 e3
        subst e2 e3
        refine (Tryz.bytes_Index_nil (some ⟨b2, o2, none⟩) m qc w (by omega) (fun h => by omega)).mono ?_
        rintro e w' ⟨rfl, rfl⟩
        refine ⟨?_, 0, rfl⟩
        rw [if_neg (by omega)]
        have : Lib.index [] sep = -1 := by
          unfold Lib.index
          rw [if_neg (by cases sep; exact absurd rfl h1; simp)]
        rw [this]
      · simp at he
    | some ad =>
      obtain ⟨g, hg⟩ := hg (by omega)
      have hr : ∀ (s : List UInt8), ∀ x ∈ (s.map fun x => (x.toNat : Int)), 0 ≤ x ∧ x < 256 := fun s x hx => by
        obtain ⟨y, _, rfl⟩ := List.mem_map.1 hx
        have := y.toNat_lt
        omega
      refine (Tryz.bytes_Index_at ad ⟨b2, o2, none⟩ n k m qc (l.map fun x => (x.toNat : Int)) (sep.map fun x => (x.toNat : Int)) g w (by rw [List.length_map]; exact hu.len.symm) (by rw [List.length_map]; exact hm.symm) (hr l) (hr sep) (cells_of_rd hu) (cells_of_rd hq) (rd_cap hu) hs (by omega) hg).mono ?_
      rintro e w' ⟨rfl, h⟩
      exact ⟨by rw [bytesOf_nums, bytesOf_nums], h⟩
/-- where a split parts -/
def splAt (la : Bool) (l sep : List UInt8) : Int := if la then Lib.lastIndex l sep else Lib.index l sep
theorem lastIndex_spec (l sep : List UInt8) : (Lib.lastIndex l sep = -1 ∧ ∀ j, j + sep.length ≤ l.length → Lib.occAt l sep j = false) ∨ ∃ i : Nat, i + sep.length ≤ l.length ∧ Lib.lastIndex l sep = i ∧ Lib.occAt l sep i = true ∧ ∀ j, i < j → j + sep.length ≤ l.length → Lib.occAt l sep j = false := by
  unfold Lib.lastIndex
  by_cases h : sep.length ≤ l.length
  · rw [if_pos h]
    rcases Lib.lastOcc_spec l sep (l.length - sep.length + 1) with ⟨e, hn⟩ | ⟨i, hi, e, hc, hn⟩
    · exact .inl ⟨e, fun j hj => hn j (by omega)⟩
    · exact .inr ⟨i, by omega, e, hc, fun j h1 h2 => hn j h1 (by omega)⟩
  · rw [if_neg h]
    exact .inl ⟨rfl, fun j hj => by omega⟩
theorem splAt_ge (la : Bool) (l sep : List UInt8) : -1 ≤ splAt la l sep := by
  unfold splAt
  cases la
  · exact Lib.index_ge l sep
  · rcases lastIndex_spec l sep with ⟨e, _⟩ | ⟨i, _, e, _⟩
    · simp only [if_true]; omega
    · simp only [if_true]; omega
theorem splAt_room (la : Bool) (l sep : List UInt8) (k : Nat) (h : splAt la l sep = k) : k + sep.length ≤ l.length := by
  unfold splAt at h
  cases la
  · have h2 : Lib.index l sep = k := h
    have := Lib.index_room l sep (by omega)
    omega
  · have h2 : Lib.lastIndex l sep = k := h
    rcases lastIndex_spec l sep with ⟨e, _⟩ | ⟨i, hi, e, _⟩
    · omega
    · have : i = k := by omega
      omega
set_option maxHeartbeats 8000000 in
theorem iSplitG {B0 : Nat} {w : World} {K : XK} {V : XV} {x : Ex} (a b z : Nat) (B : Sl) (la : Bool) (els : Int) (sep : List UInt8) (ha : a < 12) (hb : b < 12) (hz : z < 12) (hbz : b ≠ z) (h1 : sep ≠ []) (h8 : sep.length ≤ 8) (hB : Rd u8V w B.v sep) (hg : 1 < sep.length → ∃ m, w.cell? ⟨0, 0, none⟩ = some (.int .i64 m)) (h : XW B0 w K V x) (C : Array Value) (HC : Hid (C = ((stSplit a b z B la els sep).cs.map oV).toArray)) :
    Calls Tryz.prog 35 #[.pointer (some ⟨K.xb, 0, none⟩), .agg C] w fun e w' => (splAt la (x.s.getD a []) sep = -1 ∧ e = .returned (.bool false) ∧ Nxt B0 w w' K V V x) ∨ ∃ (k : Nat) (u v : OC), splAt la (x.s.getD a []) sep = (k : Int) ∧ e = .returned (.bool true) ∧ Nxt B0 w w' K V { V with us := (V.us.set b u).set z v } { x with s := (x.s.set b ((x.s.getD a []).take k)).set z ((x.s.getD a []).drop (k + sep.length)) } := by
  obtain ⟨pa, na, ka, Ha, La⟩ : ∃ p n k, Hid ((V.us.getD a on).1 = .slice p n k) ∧ Hid (n = (x.s.getD a []).length) := by
    obtain ⟨p, k, hu⟩ := (h.dat a ha).1.slice
    exact ⟨p, _, k, Lib.hid hu, Lib.hid rfl⟩
  obtain ⟨Bp, m, Bc⟩ := B
  have HM : Hid (m = sep.length) := Lib.hid (show Rd u8V w (.slice Bp m Bc) sep from hB).len
  have hm1 : 1 ≤ m := by rw [HM.out]; exact List.length_pos_iff.2 h1
  have hm8 : m ≤ 8 := by rw [HM.out]; exact h8
  have HDA := Lib.hid (h.dat a ha)
  have HRB := Lib.hid hB
  have HG := Lib.hid hg
  have hmb := h.str.lt
  have hxm := h.sep.1
  have hxw := h.row.lt
  clear hB hg
  go_enter Tryz.func35, Tryz.ntmps35
  go_upto_region 1 with (fail)
  obtain ⟨W, hW, hR, hB⟩ : ∃ W, w.alloc (.cells C 45) = W ∧ Row oV W w.heap.size 45 (stSplit a b z ⟨Bp, m, Bc⟩ la els sep).cs ∧ Below w.heap.size w W := ⟨_, rfl, by rw [HC.out]; exact Row.new _ _ rfl, (Below.refl _ _).alloc (Nat.le_refl _) _⟩
  rw [hW]
  clear hW
  have HK := Lib.hid (h.keep hB)
  have HB := Lib.hid hB
  have HF : Hid (∀ Z, Below W.heap.size W Z → Z.cell? ⟨K.xb, 2, none⟩ = some (.slice (some ⟨K.mb, 0, none⟩) 12 12) ∧ Z.cell? ⟨w.heap.size, 1, none⟩ = some (.int .i64 a) ∧ Z.cell? ⟨w.heap.size, 2, none⟩ = some (.int .i64 b) ∧ Z.cell? ⟨w.heap.size, 3, none⟩ = some (.int .i64 z) ∧ Z.cell? ⟨w.heap.size, 7, none⟩ = some (.slice Bp m Bc) ∧ Z.cell? ⟨w.heap.size, 8, none⟩ = some (.bool la) ∧ Z.cell? ⟨K.mb, a, none⟩ = some (.slice pa na ka) ∧ Z.cell? ⟨K.mb, b, none⟩ = some (V.us.getD b on).1 ∧ Z.frozen? ⟨K.mb, b, none⟩ = false ∧ Z.cell? ⟨K.mb, z, none⟩ = some (V.us.getD z on).1 ∧ Z.frozen? ⟨K.mb, z, none⟩ = false) := Lib.hid fun Z hZ => by
    have hh := HK.out.keep hZ
    have hr := hR.below hZ hR.lt
    exact ⟨by rw [hh.row.cell?]; rfl, by rw [hr.cell?]; rfl, by rw [hr.cell?]; rfl, by rw [hr.cell?]; rfl, by rw [hr.cell?]; rfl, by rw [hr.cell?]; rfl, hh.cellS ha Ha.out, hh.cellX hb, hh.str.frozen b, hh.cellX hz, hh.str.frozen z⟩
  have hlx := HK.out.row.lt
  have hlr := hR.lt
  clear hR hB h
  have hai : (a : Int) < 12 := by omega
  have hbi : (b : Int) < 12 := by omega
  have hzi : (z : Int) < 12 := by omega
  refine region_headsT (S := fun Z => Below W.heap.size W Z) 8 rfl (by kernel_rfl) (Below.refl _ _).drew fun hS => ?_
  refine headsT_takeD (i := 0) (d := 7) (v := .pointer (some ⟨K.xb, 0, none⟩)) (by kernel_rfl) rfl rfl (by omega) (by kernel_rfl) (by kernel_rfl) (fun c a w h => h) (yieldsIf_op rfl (fun w => by first | rfl | kernel_rfl | (go_simp; done))) hS ?_
  simp only [List.setIfInBounds_toArray, List.set_cons_succ, List.set_cons_zero]
  refine headsT_takeD (i := 1) (d := 8) (v := .pointer (some ⟨K.xb, 0, none⟩)) (by kernel_rfl) rfl rfl (by omega) (by kernel_rfl) (by kernel_rfl) (fun c a w h => h) (yieldsIf_op rfl (fun w => by first | rfl | kernel_rfl | (go_simp; done))) hS ?_
  simp only [List.setIfInBounds_toArray, List.set_cons_succ, List.set_cons_zero]
  refine headsT_takeD (i := 2) (d := 9) (v := .pointer (some ⟨K.xb, 2, none⟩)) (by kernel_rfl) rfl rfl (by omega) (by kernel_rfl) (by kernel_rfl) (fun c a w h => h) (yieldsIf_op rfl (fun w => by first | rfl | kernel_rfl | (go_simp; done))) hS ?_
  simp only [List.setIfInBounds_toArray, List.set_cons_succ, List.set_cons_zero]
  refine headsT_takeD (i := 3) (d := 10) (v := .slice (some ⟨K.mb, 0, none⟩) 12 12) (by kernel_rfl) rfl rfl (by omega) (by kernel_rfl) (by kernel_rfl) (fun c a w h => h) (.inl ⟨by first | rfl | kernel_rfl, fun W' h => by have q0 := (HF.out W' h).1; go_simp⟩) hS ?_
  simp only [List.setIfInBounds_toArray, List.set_cons_succ, List.set_cons_zero]
  refine headsT_takeD (i := 4) (d := 11) (v := .pointer (some ⟨w.heap.size, 1, none⟩)) (by kernel_rfl) rfl rfl (by omega) (by kernel_rfl) (by kernel_rfl) (fun c a w h => h) (yieldsIf_op rfl (fun w => by first | rfl | kernel_rfl | (go_simp; done))) hS ?_
  simp only [List.setIfInBounds_toArray, List.set_cons_succ, List.set_cons_zero]
  refine headsT_takeD (i := 5) (d := 12) (v := .int .i64 a) (by kernel_rfl) rfl rfl (by omega) (by kernel_rfl) (by kernel_rfl) (fun c a w h => h) (.inl ⟨by first | rfl | kernel_rfl, fun W' h => by have q0 := (HF.out W' h).2.1; go_simp⟩) hS ?_
  simp only [List.setIfInBounds_toArray, List.set_cons_succ, List.set_cons_zero]
  refine headsT_takeD (i := 6) (d := 13) (v := .pointer (some ⟨K.mb, a, none⟩)) (by kernel_rfl) rfl rfl (by omega) (by kernel_rfl) (by kernel_rfl) (fun c a w h => h) (yieldsIf_op rfl (fun w => by go_simp)) hS ?_
  simp only [List.setIfInBounds_toArray, List.set_cons_succ, List.set_cons_zero]
  refine headsT_takeD (i := 7) (d := 14) (v := .slice pa na ka) (by kernel_rfl) rfl rfl (by omega) (by kernel_rfl) (by kernel_rfl) (fun c a w h => h) (.inl ⟨by first | rfl | kernel_rfl, fun W' h => by have q0 := (HF.out W' h).2.2.2.2.2.2.1; go_simp⟩) hS ?_
  simp only [List.setIfInBounds_toArray, List.set_cons_succ, List.set_cons_zero]
  refine headsT_tail (by kernel_rfl) ?_
  simp only [List.drop]
  obtain ⟨-, -, -, -, e7, e8, -⟩ := HF.out _ hS
  go_wp2_with fail
  have HRd : Hid (∀ Z, Below W.heap.size W Z → Rd u8V Z (.slice pa na ka) (x.s.getD a []) ∧ Nrm (.slice pa na ka) ∧ Rd u8V Z (.slice Bp m Bc) sep) := Lib.hid fun Z hZ => by
    have hd := HDA.out
    have h1 := (hd.1.below HB.out).below hZ
    rw [Ha.out] at h1
    exact ⟨h1, by rw [← Ha.out]; exact hd.2.2.2, (HRB.out.below HB.out).below hZ⟩
  have hna4 : na ≤ 4096 := by rw [La.out]; exact HDA.out.2.1
  refine (rIndex W.drew pa na ka (x.s.getD a []) sep ⟨Bp, m, Bc⟩ (HRd.out _ hS).1 (HRd.out _ hS).2.1 (HRd.out _ hS).2.2 h1 h8 (by omega) (fun h => by
    obtain ⟨g, hg⟩ := HG.out h
    have hlt : 0 < w.heap.size := by
      rcases Nat.eq_zero_or_pos w.heap.size with h0 | h0
      · unfold World.cell? at hg; rw [Array.getElem?_eq_none (by show w.heap.size ≤ 0; omega)] at hg; cases hg
      · exact h0
    exact ⟨g, ((((HB.out.trans (hS.mono HB.out.size)).cell (p := ⟨0, 0, none⟩) hlt)).trans hg)⟩)).mono ?_
  rintro e Wi ⟨rfl, q, rfl⟩
  have hS1 : Below W.heap.size W (W.drew.drewN q) := hS.trans ⟨rfl, rfl, rfl, Nat.le_refl _, fun _ _ => rfl⟩
  generalize W.drew.drewN q = W1 at hS1 ⊢
  clear hS e7 e8
  obtain ⟨-, -, -, -, e7, e8, -⟩ := HF.out _ hS1
  have hka : na ≤ ka := rd_cap (HRd.out _ hS1).1
  cases la
  · skip
    have HGE := Lib.hid (splAt_ge false (x.s.getD a []) sep)
    have HLT := Lib.hid (splAt_room false (x.s.getD a []) sep)
    obtain ⟨ix, Hix⟩ : ∃ ix, Hid (splAt false (x.s.getD a []) sep = ix) := ⟨_, Lib.hid rfl⟩
    rw [Hix.out] at HGE HLT
    rw [show Lib.index (x.s.getD a []) sep = ix from Hix.out]
    by_cases hix : ix = -1
    · subst hix
      have hX := HK.out.keep hS1
      have hB2 := HB.out.trans (hS1.mono HB.out.size)
      clear HF HK HRd HDA
      go_wp2_with fail
      go_ret
      exact .inl ⟨Hix.out, rfl, hX, Upd.of_below _ hB2 (Nat.le_refl _), fun _ e => .inl e⟩
    · obtain ⟨k, rfl⟩ : ∃ k : Nat, ix = k := ⟨ix.toNat, by have := HGE.out; omega⟩
      have hkn : k + m ≤ na := by rw [La.out, HM.out]; exact HLT.out k rfl
      have hki : ¬ ((k : Int) < 0) := by omega
      have hkd : decide ((k : Int) < 0) = false := by simp
      clear hix
      go_upto_region 7 with fail
      have hX := HK.out.keep hS1
      have hB2 := HB.out.trans (hS1.mono HB.out.size)
      obtain ⟨c2, -, cb, cz, c7, -, -, -, fb, -, -⟩ := HF.out _ hS1
      have hmlt := hX.str.lt
      have hcb := hX.cellX hb
      obtain ⟨ub, hub⟩ : ∃ u, u = (V.us.getD b on).1 := ⟨_, rfl⟩
      rw [← hub] at hcb
      clear hub
      clear HF HK HB HRd e7 e8 HG
      clear hS1 hlr hlx HRB
      have hwk : IntKind.i64.wrap ((k : Int) + (m : Int)) = (k : Int) + (m : Int) := wI' _ (by omega) (by omega)
      obtain ⟨pl, kl, HsL⟩ : ∃ p' k', Hid (sliced pa 0 k ka 1 = .slice p' k k') := ⟨_, _, Lib.hid rfl⟩
      obtain ⟨nr, Hnr⟩ : ∃ n, Hid (na - (k + m) = n) := ⟨_, Lib.hid rfl⟩
      obtain ⟨pr, kr, HsR⟩ : ∃ p' k', Hid (sliced pa (k + m) na ka 1 = .slice p' nr k') := ⟨_, _, Lib.hid (by rw [← Hnr.out]; rfl)⟩
      have hkn1 : k + m ≤ na := hkn
      have hkk : k ≤ ka := by omega
      refine region_headsT (S := fun Z => Z.cell? ⟨K.xb, 2, none⟩ = some (.slice (some ⟨K.mb, 0, none⟩) 12 12) ∧ Z.cell? ⟨w.heap.size, 2, none⟩ = some (.int .i64 b) ∧ Z.cell? ⟨w.heap.size, 3, none⟩ = some (.int .i64 z) ∧ Z.cell? ⟨w.heap.size, 7, none⟩ = some (.slice Bp m Bc)) 24 rfl (by kernel_rfl) ⟨c2, cb, cz, c7⟩ fun hS2 => ?_
      refine headsT_takeD (i := 0) (d := 27) (v := .pointer (some ⟨K.xb, 0, none⟩)) (by kernel_rfl) rfl rfl (by omega) (by kernel_rfl) (by kernel_rfl) (fun c a w h => h) (yieldsIf_op rfl (fun w => by first | rfl | kernel_rfl | (go_simp; done))) hS2 ?_
      simp only [List.setIfInBounds_toArray, List.set_cons_succ, List.set_cons_zero]
      refine headsT_takeD (i := 1) (d := 28) (v := .pointer (some ⟨K.xb, 0, none⟩)) (by kernel_rfl) rfl rfl (by omega) (by kernel_rfl) (by kernel_rfl) (fun c a w h => h) (yieldsIf_op rfl (fun w => by first | rfl | kernel_rfl | (go_simp; done))) hS2 ?_
      simp only [List.setIfInBounds_toArray, List.set_cons_succ, List.set_cons_zero]
      refine headsT_takeD (i := 2) (d := 29) (v := .pointer (some ⟨K.xb, 2, none⟩)) (by kernel_rfl) rfl rfl (by omega) (by kernel_rfl) (by kernel_rfl) (fun c a w h => h) (yieldsIf_op rfl (fun w => by first | rfl | kernel_rfl | (go_simp; done))) hS2 ?_
      simp only [List.setIfInBounds_toArray, List.set_cons_succ, List.set_cons_zero]
      refine headsT_takeD (i := 3) (d := 30) (v := .slice (some ⟨K.mb, 0, none⟩) 12 12) (by kernel_rfl) rfl rfl (by omega) (by kernel_rfl) (by kernel_rfl) (fun c a w h => h) (.inl ⟨by first | rfl | kernel_rfl, fun W' h => by obtain ⟨q0, q1, q2, q3⟩ := h; go_simp⟩) hS2 ?_
      simp only [List.setIfInBounds_toArray, List.set_cons_succ, List.set_cons_zero]
      refine headsT_takeD (i := 4) (d := 31) (v := .pointer (some ⟨w.heap.size, 2, none⟩)) (by kernel_rfl) rfl rfl (by omega) (by kernel_rfl) (by kernel_rfl) (fun c a w h => h) (yieldsIf_op rfl (fun w => by first | rfl | kernel_rfl | (go_simp; done))) hS2 ?_
      simp only [List.setIfInBounds_toArray, List.set_cons_succ, List.set_cons_zero]
      refine headsT_takeD (i := 5) (d := 32) (v := .int .i64 b) (by kernel_rfl) rfl rfl (by omega) (by kernel_rfl) (by kernel_rfl) (fun c a w h => h) (.inl ⟨by first | rfl | kernel_rfl, fun W' h => by obtain ⟨q0, q1, q2, q3⟩ := h; go_simp⟩) hS2 ?_
      simp only [List.setIfInBounds_toArray, List.set_cons_succ, List.set_cons_zero]
      refine headsT_takeD (i := 6) (d := 33) (v := .pointer (some ⟨K.xb, 0, none⟩)) (by kernel_rfl) rfl rfl (by omega) (by kernel_rfl) (by kernel_rfl) (fun c a w h => h) (yieldsIf_op rfl (fun w => by first | rfl | kernel_rfl | (go_simp; done))) hS2 ?_
      simp only [List.setIfInBounds_toArray, List.set_cons_succ, List.set_cons_zero]
      refine headsT_takeD (i := 7) (d := 34) (v := .pointer (some ⟨K.xb, 0, none⟩)) (by kernel_rfl) rfl rfl (by omega) (by kernel_rfl) (by kernel_rfl) (fun c a w h => h) (yieldsIf_op rfl (fun w => by first | rfl | kernel_rfl | (go_simp; done))) hS2 ?_
      simp only [List.setIfInBounds_toArray, List.set_cons_succ, List.set_cons_zero]
      refine headsT_takeD (i := 8) (d := 35) (v := .pointer (some ⟨K.xb, 2, none⟩)) (by kernel_rfl) rfl rfl (by omega) (by kernel_rfl) (by kernel_rfl) (fun c a w h => h) (yieldsIf_op rfl (fun w => by first | rfl | kernel_rfl | (go_simp; done))) hS2 ?_
      simp only [List.setIfInBounds_toArray, List.set_cons_succ, List.set_cons_zero]
      refine headsT_takeD (i := 9) (d := 36) (v := .slice (some ⟨K.mb, 0, none⟩) 12 12) (by kernel_rfl) rfl rfl (by omega) (by kernel_rfl) (by kernel_rfl) (fun c a w h => h) (.inl ⟨by first | rfl | kernel_rfl, fun W' h => by obtain ⟨q0, q1, q2, q3⟩ := h; go_simp⟩) hS2 ?_
      simp only [List.setIfInBounds_toArray, List.set_cons_succ, List.set_cons_zero]
      refine headsT_takeD (i := 10) (d := 37) (v := .pointer (some ⟨w.heap.size, 3, none⟩)) (by kernel_rfl) rfl rfl (by omega) (by kernel_rfl) (by kernel_rfl) (fun c a w h => h) (yieldsIf_op rfl (fun w => by first | rfl | kernel_rfl | (go_simp; done))) hS2 ?_
      simp only [List.setIfInBounds_toArray, List.set_cons_succ, List.set_cons_zero]
      refine headsT_takeD (i := 11) (d := 38) (v := .int .i64 z) (by kernel_rfl) rfl rfl (by omega) (by kernel_rfl) (by kernel_rfl) (fun c a w h => h) (.inl ⟨by first | rfl | kernel_rfl, fun W' h => by obtain ⟨q0, q1, q2, q3⟩ := h; go_simp⟩) hS2 ?_
      simp only [List.setIfInBounds_toArray, List.set_cons_succ, List.set_cons_zero]
      refine headsT_takeD (i := 12) (d := 39) (v := .slice pa na ka) (by kernel_rfl) rfl rfl (by omega) (by kernel_rfl) (by kernel_rfl) (fun c a w h => h) (yieldsIf_op rfl (fun w => by first | rfl | kernel_rfl | (go_simp; done))) hS2 ?_
      simp only [List.setIfInBounds_toArray, List.set_cons_succ, List.set_cons_zero]
      refine headsT_takeD (i := 13) (d := 40) (v := .int .i64 (k : Int)) (by kernel_rfl) rfl rfl (by omega) (by kernel_rfl) (by kernel_rfl) (fun c a w h => h) (yieldsIf_op rfl (fun w => by first | rfl | kernel_rfl | (go_simp; done))) hS2 ?_
      simp only [List.setIfInBounds_toArray, List.set_cons_succ, List.set_cons_zero]
      refine headsT_takeD (i := 14) (d := 41) (v := .slice pl k kl) (by kernel_rfl) rfl rfl (by omega) (by kernel_rfl) (by kernel_rfl) (fun c a w h => h) (yieldsIf_op rfl (fun w => (exec_high (.tmp 39) (.tmp 40) rfl underB sizeB pa na ka k rfl rfl hkk w).trans (by rw [HsL.out]))) hS2 ?_
      simp only [List.setIfInBounds_toArray, List.set_cons_succ, List.set_cons_zero]
      refine headsT_takeD (i := 15) (d := 42) (v := .slice pa na ka) (by kernel_rfl) rfl rfl (by omega) (by kernel_rfl) (by kernel_rfl) (fun c a w h => h) (yieldsIf_op rfl (fun w => by first | rfl | kernel_rfl | (go_simp; done))) hS2 ?_
      simp only [List.setIfInBounds_toArray, List.set_cons_succ, List.set_cons_zero]
      refine headsT_takeD (i := 16) (d := 43) (v := .int .i64 (k : Int)) (by kernel_rfl) rfl rfl (by omega) (by kernel_rfl) (by kernel_rfl) (fun c a w h => h) (yieldsIf_op rfl (fun w => by first | rfl | kernel_rfl | (go_simp; done))) hS2 ?_
      simp only [List.setIfInBounds_toArray, List.set_cons_succ, List.set_cons_zero]
      refine headsT_takeD (i := 17) (d := 44) (v := .pointer (some ⟨w.heap.size, 7, none⟩)) (by kernel_rfl) rfl rfl (by omega) (by kernel_rfl) (by kernel_rfl) (fun c a w h => h) (yieldsIf_op rfl (fun w => by first | rfl | kernel_rfl | (go_simp; done))) hS2 ?_
      simp only [List.setIfInBounds_toArray, List.set_cons_succ, List.set_cons_zero]
      refine headsT_takeD (i := 18) (d := 45) (v := .slice Bp m Bc) (by kernel_rfl) rfl rfl (by omega) (by kernel_rfl) (by kernel_rfl) (fun c a w h => h) (.inl ⟨by first | rfl | kernel_rfl, fun W' h => by obtain ⟨q0, q1, q2, q3⟩ := h; go_simp⟩) hS2 ?_
      simp only [List.setIfInBounds_toArray, List.set_cons_succ, List.set_cons_zero]
      refine headsT_takeD (i := 19) (d := 46) (v := .int .i64 (m : Int)) (by kernel_rfl) rfl rfl (by omega) (by kernel_rfl) (by kernel_rfl) (fun c a w h => h) (yieldsIf_op rfl (fun w => by first | rfl | kernel_rfl | (go_simp; done))) hS2 ?_
      simp only [List.setIfInBounds_toArray, List.set_cons_succ, List.set_cons_zero]
      refine headsT_takeD (i := 20) (d := 47) (v := .int .i64 ((k + m : Nat) : Int)) (by kernel_rfl) rfl rfl (by omega) (by kernel_rfl) (by kernel_rfl) (fun c a w h => h) (yieldsIf_op rfl (fun w => by go_simp)) hS2 ?_
      simp only [List.setIfInBounds_toArray, List.set_cons_succ, List.set_cons_zero]
      refine headsT_takeD (i := 21) (d := 48) (v := .slice pr nr kr) (by kernel_rfl) rfl rfl (by omega) (by kernel_rfl) (by kernel_rfl) (fun c a w h => h) (yieldsIf_op rfl (fun w => (exec_low (.tmp 42) (.tmp 47) rfl underB sizeB pa na ka (k + m) rfl rfl hkn1 w).trans (by rw [HsR.out]))) hS2 ?_
      simp only [List.setIfInBounds_toArray, List.set_cons_succ, List.set_cons_zero]
      refine headsT_takeD (i := 22) (d := 49) (v := .pointer (some ⟨K.mb, b, none⟩)) (by kernel_rfl) rfl rfl (by omega) (by kernel_rfl) (by kernel_rfl) (fun c a w h => h) (yieldsIf_op rfl (fun w => by go_simp)) hS2 ?_
      simp only [List.setIfInBounds_toArray, List.set_cons_succ, List.set_cons_zero]
      refine headsT_ready (rs := [23]) (by kernel_rfl) (by simp) (AllReadyT.cons (by omega) rfl (fun K' hK => ?_) AllReadyT.nil)
      have hcb' : W1.drew.cell? ⟨K.mb, b, none⟩ = some ub := hcb
      have fb' : W1.drew.frozen? ⟨K.mb, b, none⟩ = false := fb
      refine storeH1 (.tmp 49) (.tmp 41) rfl rfl rfl K.mb b (.slice pl k kl) (by go_simp) ?_
      have hXd := hX.keep ((Below.refl W1.heap.size W1).drew)
      have hBd := hB2.trans ((Below.refl W1.heap.size W1).drew.mono hB2.size)
      have hD1 : Dat W1.drew K V ⟨.slice pl k kl, rfl⟩ ((x.s.getD a []).take k) := by
        have h1 := (hXd.dat a ha).slc Ha.out 0 k (Nat.zero_le _) (by omega)
        rw [show (⟨sliced pa 0 k ka 1, rfl⟩ : OC) = ⟨.slice pl k kl, rfl⟩ from Subtype.ext HsL.out, List.drop_zero, Nat.sub_zero] at h1
        exact h1
      have hD2 : Dat W1.drew K V ⟨.slice pr nr kr, rfl⟩ ((x.s.getD a []).drop (k + m)) := by
        have h1 := (hXd.dat a ha).slc Ha.out (k + m) na hkn1 (Nat.le_refl _)
        rw [show (⟨sliced pa (k + m) na ka 1, rfl⟩ : OC) = ⟨.slice pr nr kr, rfl⟩ from Subtype.ext HsR.out, List.take_of_length_le (by rw [List.length_drop, ← La.out]; exact Nat.le_refl _)] at h1
        exact h1
      have hX2 := hXd.setS b ⟨.slice pl k kl, rfl⟩ _ hD1
      have hD3 := hD2.set (V' := { V with us := V.us.set b ⟨.slice pl k kl, rfl⟩ }) (.inr (.inl rfl)) b (.slice pl k kl) (fun _ _ e => e)
      have hU2 := (Upd.of_below (Wr K V) hBd (Nat.le_refl _)).set (b := K.mb) (.inl (.inr (.inl rfl))) b (.slice pl k kl)
      have hcz := hX2.cellX hz
      have fz := hX2.str.frozen z
      obtain ⟨uz, huz⟩ : ∃ u, u = ((V.us.set b ⟨.slice pl k kl, rfl⟩).getD z on).1 := ⟨_, rfl⟩
      rw [← huz] at hcz
      clear huz
      have hne : K.mb ≠ w.heap.size := by omega
      have hcell : ∀ j, (W1.drew.setCell ⟨K.mb, b, none⟩ (.slice pl k kl)).cell? ⟨w.heap.size, j, none⟩ = W1.drew.cell? ⟨w.heap.size, j, none⟩ := fun j => World.cell?_of_block (a := ⟨w.heap.size, j, none⟩) (Below.heap_setCell _ _ _ _ (Ne.symm hne))
      have hS3 := And.intro (show (W1.drew.setCell ⟨K.mb, b, none⟩ (.slice pl k kl)).cell? ⟨K.xb, 2, none⟩ = some (.slice (some ⟨K.mb, 0, none⟩) 12 12) by rw [hX2.row.cell?]; rfl) (And.intro ((hcell 2).trans hS2.2.1) (And.intro ((hcell 3).trans hS2.2.2.1) ((hcell 7).trans hS2.2.2.2)))
      refine hK.out _ _ hS3 fun _ => ?_
      clear hK hcell
      refine headsT_tail (by kernel_rfl) ?_
      simp only [List.drop]
      have HX2 := Lib.hid (And.intro hX2 (And.intro hD3 hU2))
      clear hX2 hD3 hU2 hXd hBd hD1 hD2 hX hB2 hS2 hS3 c2 cb cz c7 fb hcb fb' hcb'
      generalize (W1.drew.setCell ⟨K.mb, b, none⟩ (.slice pl k kl)) = W2 at HX2 hcz fz ⊢
      go_wp2_with fail
      go_ret
      rw [HM.out] at HX2
      exact .inr ⟨k, ⟨.slice pl k kl, rfl⟩, ⟨.slice pr nr kr, rfl⟩, Hix.out, rfl, HX2.out.1.setS z ⟨.slice pr nr kr, rfl⟩ _ HX2.out.2.1, HX2.out.2.2.set (b := K.mb) (.inl (.inr (.inl rfl))) z _, fun _ e => .inl e⟩
  · go_wp2_with fail
    refine (rLastIndex W1 pa na ka (x.s.getD a []) sep ⟨Bp, m, Bc⟩ (HRd.out _ hS1).1 (HRd.out _ hS1).2.2 h1 (by omega) (by omega)).mono ?_
    rintro e Wi ⟨rfl, q2, rfl⟩
    have hS2 : Below W.heap.size W (W1.drewN q2) := hS1.trans ⟨rfl, rfl, rfl, Nat.le_refl _, fun _ _ => rfl⟩
    clear hS1 e7 e8
    generalize W1.drewN q2 = W1 at hS2 ⊢
    have hS1 := hS2
    clear hS2
    obtain ⟨-, -, -, -, e7, e8, -⟩ := HF.out _ hS1
    have HGE := Lib.hid (splAt_ge true (x.s.getD a []) sep)
    have HLT := Lib.hid (splAt_room true (x.s.getD a []) sep)
    obtain ⟨ix, Hix⟩ : ∃ ix, Hid (splAt true (x.s.getD a []) sep = ix) := ⟨_, Lib.hid rfl⟩
    rw [Hix.out] at HGE HLT
    rw [show Lib.lastIndex (x.s.getD a []) sep = ix from Hix.out]
    by_cases hix : ix = -1
    · subst hix
      have hX := HK.out.keep hS1
      have hB2 := HB.out.trans (hS1.mono HB.out.size)
      clear HF HK HRd HDA
      go_wp2_with fail
      go_ret
      exact .inl ⟨Hix.out, rfl, hX, Upd.of_below _ hB2 (Nat.le_refl _), fun _ e => .inl e⟩
    · obtain ⟨k, rfl⟩ : ∃ k : Nat, ix = k := ⟨ix.toNat, by have := HGE.out; omega⟩
      have hkn : k + m ≤ na := by rw [La.out, HM.out]; exact HLT.out k rfl
      have hki : ¬ ((k : Int) < 0) := by omega
      have hkd : decide ((k : Int) < 0) = false := by simp
      clear hix
      go_upto_region 7 with fail
      have hX := HK.out.keep hS1
      have hB2 := HB.out.trans (hS1.mono HB.out.size)
      obtain ⟨c2, -, cb, cz, c7, -, -, -, fb, -, -⟩ := HF.out _ hS1
      have hmlt := hX.str.lt
      have hcb := hX.cellX hb
      obtain ⟨ub, hub⟩ : ∃ u, u = (V.us.getD b on).1 := ⟨_, rfl⟩
      rw [← hub] at hcb
      clear hub
      clear HF HK HB HRd e7 e8 HG
      clear hS1 hlr hlx HRB
      have hwk : IntKind.i64.wrap ((k : Int) + (m : Int)) = (k : Int) + (m : Int) := wI' _ (by omega) (by omega)
      obtain ⟨pl, kl, HsL⟩ : ∃ p' k', Hid (sliced pa 0 k ka 1 = .slice p' k k') := ⟨_, _, Lib.hid rfl⟩
      obtain ⟨nr, Hnr⟩ : ∃ n, Hid (na - (k + m) = n) := ⟨_, Lib.hid rfl⟩
      obtain ⟨pr, kr, HsR⟩ : ∃ p' k', Hid (sliced pa (k + m) na ka 1 = .slice p' nr k') := ⟨_, _, Lib.hid (by rw [← Hnr.out]; rfl)⟩
      have hkn1 : k + m ≤ na := hkn
      have hkk : k ≤ ka := by omega
      refine region_headsT (S := fun Z => Z.cell? ⟨K.xb, 2, none⟩ = some (.slice (some ⟨K.mb, 0, none⟩) 12 12) ∧ Z.cell? ⟨w.heap.size, 2, none⟩ = some (.int .i64 b) ∧ Z.cell? ⟨w.heap.size, 3, none⟩ = some (.int .i64 z) ∧ Z.cell? ⟨w.heap.size, 7, none⟩ = some (.slice Bp m Bc)) 24 rfl (by kernel_rfl) ⟨c2, cb, cz, c7⟩ fun hS2 => ?_
      refine headsT_takeD (i := 0) (d := 27) (v := .pointer (some ⟨K.xb, 0, none⟩)) (by kernel_rfl) rfl rfl (by omega) (by kernel_rfl) (by kernel_rfl) (fun c a w h => h) (yieldsIf_op rfl (fun w => by first | rfl | kernel_rfl | (go_simp; done))) hS2 ?_
      simp only [List.setIfInBounds_toArray, List.set_cons_succ, List.set_cons_zero]
      refine headsT_takeD (i := 1) (d := 28) (v := .pointer (some ⟨K.xb, 0, none⟩)) (by kernel_rfl) rfl rfl (by omega) (by kernel_rfl) (by kernel_rfl) (fun c a w h => h) (yieldsIf_op rfl (fun w => by first | rfl | kernel_rfl | (go_simp; done))) hS2 ?_
      simp only [List.setIfInBounds_toArray, List.set_cons_succ, List.set_cons_zero]
      refine headsT_takeD (i := 2) (d := 29) (v := .pointer (some ⟨K.xb, 2, none⟩)) (by kernel_rfl) rfl rfl (by omega) (by kernel_rfl) (by kernel_rfl) (fun c a w h => h) (yieldsIf_op rfl (fun w => by first | rfl | kernel_rfl | (go_simp; done))) hS2 ?_
      simp only [List.setIfInBounds_toArray, List.set_cons_succ, List.set_cons_zero]
      refine headsT_takeD (i := 3) (d := 30) (v := .slice (some ⟨K.mb, 0, none⟩) 12 12) (by kernel_rfl) rfl rfl (by omega) (by kernel_rfl) (by kernel_rfl) (fun c a w h => h) (.inl ⟨by first | rfl | kernel_rfl, fun W' h => by obtain ⟨q0, q1, q2, q3⟩ := h; go_simp⟩) hS2 ?_
      simp only [List.setIfInBounds_toArray, List.set_cons_succ, List.set_cons_zero]
      refine headsT_takeD (i := 4) (d := 31) (v := .pointer (some ⟨w.heap.size, 2, none⟩)) (by kernel_rfl) rfl rfl (by omega) (by kernel_rfl) (by kernel_rfl) (fun c a w h => h) (yieldsIf_op rfl (fun w => by first | rfl | kernel_rfl | (go_simp; done))) hS2 ?_
      simp only [List.setIfInBounds_toArray, List.set_cons_succ, List.set_cons_zero]
      refine headsT_takeD (i := 5) (d := 32) (v := .int .i64 b) (by kernel_rfl) rfl rfl (by omega) (by kernel_rfl) (by kernel_rfl) (fun c a w h => h) (.inl ⟨by first | rfl | kernel_rfl, fun W' h => by obtain ⟨q0, q1, q2, q3⟩ := h; go_simp⟩) hS2 ?_
      simp only [List.setIfInBounds_toArray, List.set_cons_succ, List.set_cons_zero]
      refine headsT_takeD (i := 6) (d := 33) (v := .pointer (some ⟨K.xb, 0, none⟩)) (by kernel_rfl) rfl rfl (by omega) (by kernel_rfl) (by kernel_rfl) (fun c a w h => h) (yieldsIf_op rfl (fun w => by first | rfl | kernel_rfl | (go_simp; done))) hS2 ?_
      simp only [List.setIfInBounds_toArray, List.set_cons_succ, List.set_cons_zero]
      refine headsT_takeD (i := 7) (d := 34) (v := .pointer (some ⟨K.xb, 0, none⟩)) (by kernel_rfl) rfl rfl (by omega) (by kernel_rfl) (by kernel_rfl) (fun c a w h => h) (yieldsIf_op rfl (fun w => by first | rfl | kernel_rfl | (go_simp; done))) hS2 ?_
      simp only [List.setIfInBounds_toArray, List.set_cons_succ, List.set_cons_zero]
      refine headsT_takeD (i := 8) (d := 35) (v := .pointer (some ⟨K.xb, 2, none⟩)) (by kernel_rfl) rfl rfl (by omega) (by kernel_rfl) (by kernel_rfl) (fun c a w h => h) (yieldsIf_op rfl (fun w => by first | rfl | kernel_rfl | (go_simp; done))) hS2 ?_
      simp only [List.setIfInBounds_toArray, List.set_cons_succ, List.set_cons_zero]
      refine headsT_takeD (i := 9) (d := 36) (v := .slice (some ⟨K.mb, 0, none⟩) 12 12) (by kernel_rfl) rfl rfl (by omega) (by kernel_rfl) (by kernel_rfl) (fun c a w h => h) (.inl ⟨by first | rfl | kernel_rfl, fun W' h => by obtain ⟨q0, q1, q2, q3⟩ := h; go_simp⟩) hS2 ?_
      simp only [List.setIfInBounds_toArray, List.set_cons_succ, List.set_cons_zero]
      refine headsT_takeD (i := 10) (d := 37) (v := .pointer (some ⟨w.heap.size, 3, none⟩)) (by kernel_rfl) rfl rfl (by omega) (by kernel_rfl) (by kernel_rfl) (fun c a w h => h) (yieldsIf_op rfl (fun w => by first | rfl | kernel_rfl | (go_simp; done))) hS2 ?_
      simp only [List.setIfInBounds_toArray, List.set_cons_succ, List.set_cons_zero]
      refine headsT_takeD (i := 11) (d := 38) (v := .int .i64 z) (by kernel_rfl) rfl rfl (by omega) (by kernel_rfl) (by kernel_rfl) (fun c a w h => h) (.inl ⟨by first | rfl | kernel_rfl, fun W' h => by obtain ⟨q0, q1, q2, q3⟩ := h; go_simp⟩) hS2 ?_
      simp only [List.setIfInBounds_toArray, List.set_cons_succ, List.set_cons_zero]
      refine headsT_takeD (i := 12) (d := 39) (v := .slice pa na ka) (by kernel_rfl) rfl rfl (by omega) (by kernel_rfl) (by kernel_rfl) (fun c a w h => h) (yieldsIf_op rfl (fun w => by first | rfl | kernel_rfl | (go_simp; done))) hS2 ?_
      simp only [List.setIfInBounds_toArray, List.set_cons_succ, List.set_cons_zero]
      refine headsT_takeD (i := 13) (d := 40) (v := .int .i64 (k : Int)) (by kernel_rfl) rfl rfl (by omega) (by kernel_rfl) (by kernel_rfl) (fun c a w h => h) (yieldsIf_op rfl (fun w => by first | rfl | kernel_rfl | (go_simp; done))) hS2 ?_
      simp only [List.setIfInBounds_toArray, List.set_cons_succ, List.set_cons_zero]
      refine headsT_takeD (i := 14) (d := 41) (v := .slice pl k kl) (by kernel_rfl) rfl rfl (by omega) (by kernel_rfl) (by kernel_rfl) (fun c a w h => h) (yieldsIf_op rfl (fun w => (exec_high (.tmp 39) (.tmp 40) rfl underB sizeB pa na ka k rfl rfl hkk w).trans (by rw [HsL.out]))) hS2 ?_
      simp only [List.setIfInBounds_toArray, List.set_cons_succ, List.set_cons_zero]
      refine headsT_takeD (i := 15) (d := 42) (v := .slice pa na ka) (by kernel_rfl) rfl rfl (by omega) (by kernel_rfl) (by kernel_rfl) (fun c a w h => h) (yieldsIf_op rfl (fun w => by first | rfl | kernel_rfl | (go_simp; done))) hS2 ?_
      simp only [List.setIfInBounds_toArray, List.set_cons_succ, List.set_cons_zero]
      refine headsT_takeD (i := 16) (d := 43) (v := .int .i64 (k : Int)) (by kernel_rfl) rfl rfl (by omega) (by kernel_rfl) (by kernel_rfl) (fun c a w h => h) (yieldsIf_op rfl (fun w => by first | rfl | kernel_rfl | (go_simp; done))) hS2 ?_
      simp only [List.setIfInBounds_toArray, List.set_cons_succ, List.set_cons_zero]
      refine headsT_takeD (i := 17) (d := 44) (v := .pointer (some ⟨w.heap.size, 7, none⟩)) (by kernel_rfl) rfl rfl (by omega) (by kernel_rfl) (by kernel_rfl) (fun c a w h => h) (yieldsIf_op rfl (fun w => by first | rfl | kernel_rfl | (go_simp; done))) hS2 ?_
      simp only [List.setIfInBounds_toArray, List.set_cons_succ, List.set_cons_zero]
      refine headsT_takeD (i := 18) (d := 45) (v := .slice Bp m Bc) (by kernel_rfl) rfl rfl (by omega) (by kernel_rfl) (by kernel_rfl) (fun c a w h => h) (.inl ⟨by first | rfl | kernel_rfl, fun W' h => by obtain ⟨q0, q1, q2, q3⟩ := h; go_simp⟩) hS2 ?_
      simp only [List.setIfInBounds_toArray, List.set_cons_succ, List.set_cons_zero]
      refine headsT_takeD (i := 19) (d := 46) (v := .int .i64 (m : Int)) (by kernel_rfl) rfl rfl (by omega) (by kernel_rfl) (by kernel_rfl) (fun c a w h => h) (yieldsIf_op rfl (fun w => by first | rfl | kernel_rfl | (go_simp; done))) hS2 ?_
      simp only [List.setIfInBounds_toArray, List.set_cons_succ, List.set_cons_zero]
      refine headsT_takeD (i := 20) (d := 47) (v := .int .i64 ((k + m : Nat) : Int)) (by kernel_rfl) rfl rfl (by omega) (by kernel_rfl) (by kernel_rfl) (fun c a w h => h) (yieldsIf_op rfl (fun w => by go_simp)) hS2 ?_
      simp only [List.setIfInBounds_toArray, List.set_cons_succ, List.set_cons_zero]
      refine headsT_takeD (i := 21) (d := 48) (v := .slice pr nr kr) (by kernel_rfl) rfl rfl (by omega) (by kernel_rfl) (by kernel_rfl) (fun c a w h => h) (yieldsIf_op rfl (fun w => (exec_low (.tmp 42) (.tmp 47) rfl underB sizeB pa na ka (k + m) rfl rfl hkn1 w).trans (by rw [HsR.out]))) hS2 ?_
      simp only [List.setIfInBounds_toArray, List.set_cons_succ, List.set_cons_zero]
      refine headsT_takeD (i := 22) (d := 49) (v := .pointer (some ⟨K.mb, b, none⟩)) (by kernel_rfl) rfl rfl (by omega) (by kernel_rfl) (by kernel_rfl) (fun c a w h => h) (yieldsIf_op rfl (fun w => by go_simp)) hS2 ?_
      simp only [List.setIfInBounds_toArray, List.set_cons_succ, List.set_cons_zero]
      refine headsT_ready (rs := [23]) (by kernel_rfl) (by simp) (AllReadyT.cons (by omega) rfl (fun K' hK => ?_) AllReadyT.nil)
      have hcb' : W1.drew.cell? ⟨K.mb, b, none⟩ = some ub := hcb
      have fb' : W1.drew.frozen? ⟨K.mb, b, none⟩ = false := fb
      refine storeH1 (.tmp 49) (.tmp 41) rfl rfl rfl K.mb b (.slice pl k kl) (by go_simp) ?_
      have hXd := hX.keep ((Below.refl W1.heap.size W1).drew)
      have hBd := hB2.trans ((Below.refl W1.heap.size W1).drew.mono hB2.size)
      have hD1 : Dat W1.drew K V ⟨.slice pl k kl, rfl⟩ ((x.s.getD a []).take k) := by
        have h1 := (hXd.dat a ha).slc Ha.out 0 k (Nat.zero_le _) (by omega)
        rw [show (⟨sliced pa 0 k ka 1, rfl⟩ : OC) = ⟨.slice pl k kl, rfl⟩ from Subtype.ext HsL.out, List.drop_zero, Nat.sub_zero] at h1
        exact h1
      have hD2 : Dat W1.drew K V ⟨.slice pr nr kr, rfl⟩ ((x.s.getD a []).drop (k + m)) := by
        have h1 := (hXd.dat a ha).slc Ha.out (k + m) na hkn1 (Nat.le_refl _)
        rw [show (⟨sliced pa (k + m) na ka 1, rfl⟩ : OC) = ⟨.slice pr nr kr, rfl⟩ from Subtype.ext HsR.out, List.take_of_length_le (by rw [List.length_drop, ← La.out]; exact Nat.le_refl _)] at h1
        exact h1
      have hX2 := hXd.setS b ⟨.slice pl k kl, rfl⟩ _ hD1
      have hD3 := hD2.set (V' := { V with us := V.us.set b ⟨.slice pl k kl, rfl⟩ }) (.inr (.inl rfl)) b (.slice pl k kl) (fun _ _ e => e)
      have hU2 := (Upd.of_below (Wr K V) hBd (Nat.le_refl _)).set (b := K.mb) (.inl (.inr (.inl rfl))) b (.slice pl k kl)
      have hcz := hX2.cellX hz
      have fz := hX2.str.frozen z
      obtain ⟨uz, huz⟩ : ∃ u, u = ((V.us.set b ⟨.slice pl k kl, rfl⟩).getD z on).1 := ⟨_, rfl⟩
      rw [← huz] at hcz
      clear huz
      have hne : K.mb ≠ w.heap.size := by omega
      have hcell : ∀ j, (W1.drew.setCell ⟨K.mb, b, none⟩ (.slice pl k kl)).cell? ⟨w.heap.size, j, none⟩ = W1.drew.cell? ⟨w.heap.size, j, none⟩ := fun j => World.cell?_of_block (a := ⟨w.heap.size, j, none⟩) (Below.heap_setCell _ _ _ _ (Ne.symm hne))
      have hS3 := And.intro (show (W1.drew.setCell ⟨K.mb, b, none⟩ (.slice pl k kl)).cell? ⟨K.xb, 2, none⟩ = some (.slice (some ⟨K.mb, 0, none⟩) 12 12) by rw [hX2.row.cell?]; rfl) (And.intro ((hcell 2).trans hS2.2.1) (And.intro ((hcell 3).trans hS2.2.2.1) ((hcell 7).trans hS2.2.2.2)))
      refine hK.out _ _ hS3 fun _ => ?_
      clear hK hcell
      refine headsT_tail (by kernel_rfl) ?_
      simp only [List.drop]
      have HX2 := Lib.hid (And.intro hX2 (And.intro hD3 hU2))
      clear hX2 hD3 hU2 hXd hBd hD1 hD2 hX hB2 hS2 hS3 c2 cb cz c7 fb hcb fb' hcb'
      generalize (W1.drew.setCell ⟨K.mb, b, none⟩ (.slice pl k kl)) = W2 at HX2 hcz fz ⊢
      go_wp2_with fail
      go_ret
      rw [HM.out] at HX2
      exact .inr ⟨k, ⟨.slice pl k kl, rfl⟩, ⟨.slice pr nr kr, rfl⟩, Hix.out, rfl, HX2.out.1.setS z ⟨.slice pr nr kr, rfl⟩ _ HX2.out.2.1, HX2.out.2.2.set (b := K.mb) (.inl (.inr (.inl rfl))) z _, fun _ e => .inl e⟩
end Go.Proofs.YtllomcmhkocdfaaGreatDoor
