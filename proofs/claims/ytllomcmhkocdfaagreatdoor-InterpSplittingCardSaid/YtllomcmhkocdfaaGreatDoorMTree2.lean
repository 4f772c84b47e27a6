/- The blocks and statements of a program form a tree. -/
import Derived.Deep.LoopGhost
import Derived.WideMake
import Derived.Test.YtllomcmhkocdfaaGreatDoorMBound
import Derived.Test.YtllomcmhkocdfaaGreatDoorMQue
import Derived.Test.YtllomcmhkocdfaaGreatDoorMDial2
namespace Go.Proofs.YtllomcmhkocdfaaGreatDoor
open Go.RowKit Mem
set_option maxRecDepth 100000

theorem szInt : (Tryz.prog.info? 3).map (·.size) = some 1 := by kernel_rfl
theorem eltBool : Elt Tryz.prog 84 4 1 := Elt.mk' Tryz.underlying84 (z := .bool false) (by kernel_rfl) rfl
/-- make of a row of bools -/
theorem make_bool (w : World) (n : Nat) (hn : n ≤ 4294967296) : (Instr.makeSlice 84 (.int .i64 (n : Int)) (.int .i64 (n : Int))).run Tryz.prog w = .ok (.slice (some ⟨w.heap.size, 0, none⟩) n n) (w.alloc (.cells ((List.replicate n false).map Value.bool).toArray 4)) := by
  obtain ⟨i, z, hi, hz, hs, hb, _⟩ := eltBool.hi
  have hzz : z = .bool false := by
    have h : (Tryz.prog.info? 4).bind (·.zero) = some (.bool false) := by kernel_rfl
    rw [hi] at h
    exact Option.some.inj (hz.symm.trans h)
  have h := run_make w 84 4 i z Tryz.underlying84 hi hz .i64 .i64 (n : Int) (n : Int) (by omega) (Int.le_refl _) (by rw [hb]; omega) (by omega)
  rw [Int.toNat_natCast, hs, hzz, Nat.mul_one] at h
  rw [h]
  show Result.ok _ (w.alloc (.cells (madeCells #[.bool false] n) _)) = _
  have e : madeCells #[.bool false] n = ((List.replicate n false).map Value.bool).toArray := by
    apply Array.toList_inj.1
    rw [toList_madeCells_one, List.map_replicate]
  rw [e]

theorem idxBoolAll (w : World) (A : Nat) (l : List Bool) (hR : Row Value.bool w A 4 l) (hl : l.length ≤ 4096) (ha : ∀ x ∈ l, x = true) :
    Calls Tryz.prog 105 #[.slice (some ⟨A, 0, none⟩) l.length l.length, .bool false] w fun e w' => e = .returned (.int .i64 (-1)) ∧ w' = w := by
  have HA := Lib.hid (And.intro hR ha)
  clear hR ha
  go_enter Tryz.func105, Tryz.ntmps105
  go_wp2_with fail
  go_loop [8] (fun i => ∃ k : Nat, k ≤ l.length ∧ i = .int .i64 k) (fun i => l.length - (intOf i).toNat)
  case atStart => exact ⟨0, by omega, rfl⟩
  case round =>
    obtain ⟨k, hk, rfl⟩ := hrel
    by_cases hlt : k < l.length
    · have hq : (k : Int) < (l.length : Int) := by omega
      have hc : w.cell? ⟨A, k, none⟩ = some (.bool true) := by rw [HA.out.1.cell?, List.getElem?_eq_getElem hlt, HA.out.2 _ (List.getElem_mem hlt)]; rfl
      go_wp2_with fail
      go_round
      case rel => exact ⟨k + 1, by omega, by go_num⟩
      case measure => simp [intOf]; omega
    · obtain rfl : k = l.length := by omega
      go_wp2
      go_ret
      exact ⟨rfl, rfl⟩
theorem containsBoolAll (w : World) (A : Nat) (l : List Bool) (hR : Row Value.bool w A 4 l) (hl : l.length ≤ 4096) (ha : ∀ x ∈ l, x = true) :
    Calls Tryz.prog 65 #[.slice (some ⟨A, 0, none⟩) l.length l.length, .bool false] w fun e w' => e = .returned (.bool false) ∧ w' = w := by
  have HA := Lib.hid (And.intro hR ha)
  clear hR ha
  go_enter Tryz.func65, Tryz.ntmps65
  go_wp2_with fail
  refine (idxBoolAll w A l HA.out.1 hl HA.out.2).mono ?_
  rintro e w ⟨rfl, rfl⟩
  go_wp2
  go_ret
  exact ⟨rfl, rfl⟩
theorem dVisit (w : World) (A : Nat) (l : List Bool) (i : Nat) (hR : Row Value.bool w A 4 l) (hl : l.length ≤ 4096) (hi : l[i]? = some false) :
    Calls Tryz.prog 64 #[.slice (some ⟨A, 0, none⟩) l.length l.length, .int .i64 i] w fun e w' => e = .returned (.bool true) ∧ w' = w.setCell ⟨A, i, none⟩ (.bool true) := by
  have hil : i < l.length := (List.getElem?_eq_some_iff.1 hi).1
  have hq : (i : Int) < (l.length : Int) := by omega
  have hq2 : ¬ ((l.length : Int) ≤ (i : Int)) := by omega
  have hq3 : decide ((i : Int) < 0) = false := by simp
  have hc : w.cell? ⟨A, i, none⟩ = some (.bool false) := by rw [hR.cell?, hi]; rfl
  have hf := hR.frozen i
  clear hR hi
  go_enter Tryz.func64, Tryz.ntmps64
  go_wp2
  go_ret
  exact ⟨rfl, rfl⟩

def kidL : List Int → Bf → Option Bf
  | [], x => some x
  | c :: l, x => (kidB c x).bind (kidL l)
theorem stB_kids {S : List St} {i : Int} {x y : Bf} (h : stB S i x = some y) : ∃ n : Nat, i = n ∧ x.st[n]? = some false ∧ kidL [(at' S n).t, (at' S n).e] { x with st := x.st.set n true } = some y := by
  unfold stB at h
  split at h
  · rename_i h0
    refine ⟨i.toNat, by omega, h0.2, ?_⟩
    have e : ∀ o : Option Bf, o.bind some = o := fun o => by cases o <;> rfl
    simp only [kidL, e]
    exact h
  · cases h

/-- the lists of blocks, and how many may still come -/
def LB (B : List (List Int)) (Z : Bf) : Prop := Z.bl.length = B.length ∧ Z.todo.length + Z.bl.count false ≤ 4096
theorem LB.push {B : List (List Int)} {z : Bf} (h : LB B z) {q : Nat} (hq : z.bl[q]? = some false) : LB B { z with bl := z.bl.set q true, todo := z.todo ++ [q] } := by
  obtain ⟨hl, e⟩ := List.getElem?_eq_some_iff.1 hq
  refine ⟨by simpa using h.1, ?_⟩
  have h1 : 0 < z.bl.count false := List.count_pos_iff.2 (e ▸ List.getElem_mem hl)
  have h2 : (z.bl.set q true).count false + 1 = z.bl.count false := by rw [List.count_set hl, e]; simp; omega
  have := h.2
  show (z.todo ++ [q]).length + (z.bl.set q true).count false ≤ 4096
  rw [List.length_append]
  simp only [List.length_cons, List.length_nil]
  omega

set_option maxHeartbeats 16000000 in
theorem dTree {S : List St} {B : List (List Int)} (ss bs : Sl) (hS64 : S.length ≤ 64) (hB64 : B.length ≤ 129) (hBl : ∀ l ∈ B, l.length ≤ 4096) (hT : treeB S B) (w : World) (hp : PgM w ss bs S B) :
    Calls Tryz.prog 45 #[.agg #[ss.v, bs.v]] w fun e w' => e = .returned (.bool true) ∧ Below w.heap.size w w' := by
  obtain ⟨sp, sn, sc⟩ := ss
  obtain ⟨kp, kn, kc⟩ := bs
  obtain rfl : sn = S.length := hp.ns
  obtain rfl : kn = B.length := hp.nb
  obtain ⟨hB0, nf, hT⟩ := hT
  have HP := Lib.hid hp
  have HT := Lib.hid hT
  clear hp hT
  go_enter Tryz.func45, Tryz.ntmps45
  have hR0 : PgBox (w.alloc (.cells #[.slice sp S.length sc, .slice kp B.length kc] 28)) w.heap.size ⟨sp, S.length, sc⟩ ⟨kp, B.length, kc⟩ := World.alloc_heap_new _ _
  have hBw : Below w.heap.size w (w.alloc (.cells #[.slice sp S.length sc, .slice kp B.length kc] 28)) := (Below.refl _ _).alloc (Nat.le_refl _) _
  have hs0 : w.heap.size < (w.alloc (.cells #[.slice sp S.length sc, .slice kp B.length kc] 28)).heap.size := by simp
  go_upto_region 1 with (fail)
  generalize (w.alloc (.cells #[.slice sp S.length sc, .slice kp B.length kc] 28)) = W at *
  have HF : Hid (∀ X, Below (w.heap.size + 1) W X → PgBox X w.heap.size ⟨sp, S.length, sc⟩ ⟨kp, B.length, kc⟩ ∧ PgM X ⟨sp, S.length, sc⟩ ⟨kp, B.length, kc⟩ S B ∧ Below w.heap.size w X) := Lib.hid fun X hX => by
    have hX0 : Below w.heap.size w X := hBw.trans (hX.mono (Nat.le_succ _))
    exact ⟨hR0.below hX (Nat.lt_succ_self _), HP.out.below hX0, hX0⟩
  clear hR0 hBw
  go_cut [3, 4] (fun s3 s4 wx => ∃ A D : Nat, A ≠ D ∧ w.heap.size < A ∧ w.heap.size < D ∧ s3 = .slice (some ⟨A, 0, none⟩) B.length B.length ∧ s4 = .slice (some ⟨D, 0, none⟩) S.length S.length ∧ Row Value.bool wx A 4 (List.replicate B.length false) ∧ Row Value.bool wx D 4 (List.replicate S.length false) ∧ Below (w.heap.size + 1) W wx)
  case first =>
    refine wp_region_held_drew (S := fun X => Below W.heap.size W X) rfl (Below.refl _ _).drew fun hS => ?_
    refine takeD (i := 0) (d := 12) (v := .pointer (some ⟨w.heap.size, 1, none⟩)) rfl rfl (by kernel_rfl) (by kernel_rfl) (by kernel_rfl) (fun c a w h => h) (yieldsIf_op rfl (fun w => by first | rfl | kernel_rfl | (go_simp; done))) hS ?_
    simp only [List.setIfInBounds_toArray, List.set_cons_succ, List.set_cons_zero]
    refine takeD (i := 1) (d := 13) (v := .slice kp B.length kc) rfl rfl (by kernel_rfl) (by kernel_rfl) (by kernel_rfl) (fun c a w h => h) (.inl ⟨by first | rfl | kernel_rfl, fun W' h => by have q0 := (HF.out W' ((Below.refl _ W).trans (h.mono hs0))).1; have q1 := q0.c0; have q2 := q0.c1; simp only at q1 q2; clear q0; go_simp⟩) hS ?_
    simp only [List.setIfInBounds_toArray, List.set_cons_succ, List.set_cons_zero]
    refine takeD (i := 2) (d := 14) (v := .int .i64 (B.length : Nat)) rfl rfl (by kernel_rfl) (by kernel_rfl) (by kernel_rfl) (fun c a w h => h) (yieldsIf_op rfl (fun w => by first | rfl | kernel_rfl | (go_simp; done))) hS ?_
    simp only [List.setIfInBounds_toArray, List.set_cons_succ, List.set_cons_zero]
    refine takeD (i := 4) (d := 16) (v := .pointer (some ⟨w.heap.size, 0, none⟩)) rfl rfl (by kernel_rfl) (by kernel_rfl) (by kernel_rfl) (fun c a w h => h) (yieldsIf_op rfl (fun w => by first | rfl | kernel_rfl | (go_simp; done))) hS ?_
    simp only [List.setIfInBounds_toArray, List.set_cons_succ, List.set_cons_zero]
    refine takeD (i := 5) (d := 17) (v := .slice sp S.length sc) rfl rfl (by kernel_rfl) (by kernel_rfl) (by kernel_rfl) (fun c a w h => h) (.inl ⟨by first | rfl | kernel_rfl, fun W' h => by have q0 := (HF.out W' ((Below.refl _ W).trans (h.mono hs0))).1; have q1 := q0.c0; have q2 := q0.c1; simp only at q1 q2; clear q0; go_simp⟩) hS ?_
    simp only [List.setIfInBounds_toArray, List.set_cons_succ, List.set_cons_zero]
    refine takeD (i := 6) (d := 18) (v := .int .i64 (S.length : Nat)) rfl rfl (by kernel_rfl) (by kernel_rfl) (by kernel_rfl) (fun c a w h => h) (yieldsIf_op rfl (fun w => by first | rfl | kernel_rfl | (go_simp; done))) hS ?_
    simp only [List.setIfInBounds_toArray, List.set_cons_succ, List.set_cons_zero]
    refine wpAnyH_ready (rs := [3, 7]) (by kernel_rfl) (by simp) (AllReadyH.cons rfl (fun K' hK => ?_) (AllReadyH.cons rfl (fun K' hK => ?_) AllReadyH.nil))
    · generalize hX0 : W.drew = X0 at hS ⊢
      have hx0 : W.heap.size ≤ X0.heap.size := hS.size
      clear hX0
      have hm3 := make_bool X0 B.length (by omega)
      refine valueD (d := 15) (v := .slice (some ⟨X0.heap.size, 0, none⟩) B.length B.length) (w' := X0.alloc (.cells ((List.replicate B.length false).map Value.bool).toArray 4)) rfl rfl (by first | (simp [execOp, hm3, Act.eval, Result.andThen]; done) | (go_simp; done)) ?_
      have r3 : Row Value.bool (X0.alloc (.cells ((List.replicate B.length false).map Value.bool).toArray 4)) X0.heap.size 4 (List.replicate B.length false) := Row.new _ _ rfl
      have hS1 := hS.alloc hS.size (.cells ((List.replicate B.length false).map Value.bool).toArray 4)
      refine hK.out _ _ hS1 fun _ => ?_
      clear hK hm3
      simp only [List.setIfInBounds_toArray, List.set_cons_succ, List.set_cons_zero]
      have hl3 : X0.heap.size < (X0.alloc (.cells ((List.replicate B.length false).map Value.bool).toArray 4)).heap.size := by simp
      generalize (X0.alloc (.cells ((List.replicate B.length false).map Value.bool).toArray 4)) = X1 at r3 hS1 hl3 ⊢
      clear hS
      have hS := hS1
      clear hS1
      refine takeD (i := 8) (d := 3) (v := .slice (some ⟨X0.heap.size, 0, none⟩) B.length B.length) rfl rfl (by kernel_rfl) (by kernel_rfl) (by kernel_rfl) (fun c a w h => h) (yieldsIf_op rfl (fun w => by first | rfl | kernel_rfl | (go_simp; done))) hS ?_
      simp only [List.setIfInBounds_toArray, List.set_cons_succ, List.set_cons_zero]
      refine wpAnyH_ready (rs := [7]) (by kernel_rfl) (by simp) (AllReadyH.cons rfl (fun K' hK => ?_) AllReadyH.nil)
      replace r3 : Row Value.bool (X1.alloc (.cells ((List.replicate S.length false).map Value.bool).toArray 4)) X0.heap.size 4 (List.replicate B.length false) := r3.alloc _
      have hm7 := make_bool X1 S.length (by omega)
      refine valueD (d := 19) (v := .slice (some ⟨X1.heap.size, 0, none⟩) S.length S.length) (w' := X1.alloc (.cells ((List.replicate S.length false).map Value.bool).toArray 4)) rfl rfl (by first | (simp [execOp, hm7, Act.eval, Result.andThen]; done) | (go_simp; done)) ?_
      have r7 : Row Value.bool (X1.alloc (.cells ((List.replicate S.length false).map Value.bool).toArray 4)) X1.heap.size 4 (List.replicate S.length false) := Row.new _ _ rfl
      have hS2 := hS.alloc hS.size (.cells ((List.replicate S.length false).map Value.bool).toArray 4)
      refine hK.out _ _ hS2 fun _ => ?_
      clear hK hm7
      simp only [List.setIfInBounds_toArray, List.set_cons_succ, List.set_cons_zero]
      have hl7 : X1.heap.size < (X1.alloc (.cells ((List.replicate S.length false).map Value.bool).toArray 4)).heap.size := by simp
      generalize (X1.alloc (.cells ((List.replicate S.length false).map Value.bool).toArray 4)) = X2 at r3 r7 hS2 hl7 ⊢
      clear hS
      have hS := hS2
      clear hS2
      refine takeD (i := 9) (d := 4) (v := .slice (some ⟨X1.heap.size, 0, none⟩) S.length S.length) rfl rfl (by kernel_rfl) (by kernel_rfl) (by kernel_rfl) (fun c a w h => h) (yieldsIf_op rfl (fun w => by first | rfl | kernel_rfl | (go_simp; done))) hS ?_
      simp only [List.setIfInBounds_toArray, List.set_cons_succ, List.set_cons_zero]
      refine wpAnyH_done (by kernel_rfl) ?_ _
      go_wp2_with fail
      go_meet
      exact ⟨X0.heap.size, X1.heap.size, by omega, by omega, by omega, rfl, rfl, r3, r7, hS.mono hs0⟩
    · generalize hX0 : W.drew = X0 at hS ⊢
      have hx0 : W.heap.size ≤ X0.heap.size := hS.size
      clear hX0
      have hm7 := make_bool X0 S.length (by omega)
      refine valueD (d := 19) (v := .slice (some ⟨X0.heap.size, 0, none⟩) S.length S.length) (w' := X0.alloc (.cells ((List.replicate S.length false).map Value.bool).toArray 4)) rfl rfl (by first | (simp [execOp, hm7, Act.eval, Result.andThen]; done) | (go_simp; done)) ?_
      have r7 : Row Value.bool (X0.alloc (.cells ((List.replicate S.length false).map Value.bool).toArray 4)) X0.heap.size 4 (List.replicate S.length false) := Row.new _ _ rfl
      have hS1 := hS.alloc hS.size (.cells ((List.replicate S.length false).map Value.bool).toArray 4)
      refine hK.out _ _ hS1 fun _ => ?_
      clear hK hm7
      simp only [List.setIfInBounds_toArray, List.set_cons_succ, List.set_cons_zero]
      have hl7 : X0.heap.size < (X0.alloc (.cells ((List.replicate S.length false).map Value.bool).toArray 4)).heap.size := by simp
      generalize (X0.alloc (.cells ((List.replicate S.length false).map Value.bool).toArray 4)) = X1 at r7 hS1 hl7 ⊢
      clear hS
      have hS := hS1
      clear hS1
      refine wpAnyH_ready (rs := [3]) (by kernel_rfl) (by simp) (AllReadyH.cons rfl (fun K' hK => ?_) AllReadyH.nil)
      replace r7 : Row Value.bool (X1.alloc (.cells ((List.replicate B.length false).map Value.bool).toArray 4)) X0.heap.size 4 (List.replicate S.length false) := r7.alloc _
      have hm3 := make_bool X1 B.length (by omega)
      refine valueD (d := 15) (v := .slice (some ⟨X1.heap.size, 0, none⟩) B.length B.length) (w' := X1.alloc (.cells ((List.replicate B.length false).map Value.bool).toArray 4)) rfl rfl (by first | (simp [execOp, hm3, Act.eval, Result.andThen]; done) | (go_simp; done)) ?_
      have r3 : Row Value.bool (X1.alloc (.cells ((List.replicate B.length false).map Value.bool).toArray 4)) X1.heap.size 4 (List.replicate B.length false) := Row.new _ _ rfl
      have hS2 := hS.alloc hS.size (.cells ((List.replicate B.length false).map Value.bool).toArray 4)
      refine hK.out _ _ hS2 fun _ => ?_
      clear hK hm3
      simp only [List.setIfInBounds_toArray, List.set_cons_succ, List.set_cons_zero]
      have hl3 : X1.heap.size < (X1.alloc (.cells ((List.replicate B.length false).map Value.bool).toArray 4)).heap.size := by simp
      generalize (X1.alloc (.cells ((List.replicate B.length false).map Value.bool).toArray 4)) = X2 at r7 r3 hS2 hl3 ⊢
      clear hS
      have hS := hS2
      clear hS2
      refine takeD (i := 8) (d := 3) (v := .slice (some ⟨X1.heap.size, 0, none⟩) B.length B.length) rfl rfl (by kernel_rfl) (by kernel_rfl) (by kernel_rfl) (fun c a w h => h) (yieldsIf_op rfl (fun w => by first | rfl | kernel_rfl | (go_simp; done))) hS ?_
      simp only [List.setIfInBounds_toArray, List.set_cons_succ, List.set_cons_zero]
      refine takeD (i := 9) (d := 4) (v := .slice (some ⟨X0.heap.size, 0, none⟩) S.length S.length) rfl rfl (by kernel_rfl) (by kernel_rfl) (by kernel_rfl) (fun c a w h => h) (yieldsIf_op rfl (fun w => by first | rfl | kernel_rfl | (go_simp; done))) hS ?_
      simp only [List.setIfInBounds_toArray, List.set_cons_succ, List.set_cons_zero]
      refine wpAnyH_done (by kernel_rfl) ?_ _
      go_wp2_with fail
      go_meet
      exact ⟨X1.heap.size, X0.heap.size, by omega, by omega, by omega, rfl, rfl, r3, r7, hS.mono hs0⟩
  case rest =>
    obtain ⟨A, D, hAD, hA, hD, rfl, rfl, hRA, hRD, hb⟩ := hcut
    go_wp2_with fail
    have hv0 := dVisit wc A (List.replicate B.length false) 0 hRA (by simp; omega) (by rw [List.getElem?_replicate, if_pos hB0])
    rw [List.length_replicate] at hv0
    refine hv0.mono ?_
    clear hv0
    rintro e w2 ⟨rfl, hw2⟩
    have hRA2 : Row Value.bool w2 A 4 ((List.replicate B.length false).set 0 true) := by rw [hw2]; exact hRA.set 0 true
    have hRD2 : Row Value.bool w2 D 4 (List.replicate S.length false) := by rw [hw2]; exact hRD.set_other (Ne.symm hAD) 0 _
    have hb2 : Below (w.heap.size + 1) W w2 := by rw [hw2]; exact below_set hb 0 hA _
    clear hw2 hRA hRD hb
    go_wp2_with fail
    have hlA := hRA2.lt
    have hlD := hRD2.lt
    have hw2s : w.heap.size + 1 ≤ w2.heap.size := by omega
    have hQ : Que (w2.alloc (.cells #[.int .i64 0] 3)) w2.heap.size (.slice (some ⟨w2.heap.size, 0, none⟩) 1 1) [0] :=
      ⟨⟨_, 1, rfl, .inr ⟨_, 0, _, rfl, World.alloc_heap_new _ _, Nat.le_refl _, Nat.le_refl _, fun j y hj => by cases j with
        | zero => simp at hj; subst hj; rfl
        | succ j => simp at hj⟩⟩, fun g hg => by simp only [Value.ownBlock, Option.some.injEq] at hg; subst hg; exact ⟨Nat.le_refl _, by simp⟩, by simp⟩
    replace hRA2 := hRA2.alloc (.cells #[.int .i64 0] 3)
    replace hRD2 := hRD2.alloc (.cells #[.int .i64 0] 3)
    replace hb2 := hb2.alloc hw2s (.cells #[.int .i64 0] 3)
    generalize (w2.alloc (.cells #[.int .i64 0] 3)) = w3 at *
    generalize w2.heap.size = K0 at *
    clear w2
    go_loopg [6] nf (fun n v wr => ∃ x : Bf, bfsB S B n x = true ∧ LB B x ∧ x.st.length = S.length ∧ Que wr K0 v x.todo ∧ Row Value.bool wr A 4 x.bl ∧ Row Value.bool wr D 4 x.st ∧ Below (w.heap.size + 1) W wr)
    case atStart => exact ⟨_, HT.out, ⟨by simp, by have := List.count_le_length (a := false) (l := (List.replicate B.length false).set 0 true); rw [List.length_set, List.length_replicate] at this; simp only [List.length_cons, List.length_nil]; omega⟩, by simp, hQ, hRA2, hRD2, hb2⟩
    case round =>
      clear hQ hRA2 hRD2 hb2 HT
      obtain ⟨x, hbf, hxb, hxs, hQ, hRA, hRD, hb⟩ := hrel
      cases gk with
      | zero => simp [bfsB] at hbf
      | succ n =>
      cases htd : x.todo with
      | nil =>
        have hall : (∀ y ∈ x.bl, y = true) ∧ ∀ y ∈ x.st, y = true := by
          unfold bfsB at hbf; rw [htd] at hbf; simpa using hbf
        obtain ⟨p6, c6, hv6, _⟩ := hQ.1
        rw [htd] at hv6
        subst hv6
        have HA := Lib.hid (And.intro hRA (And.intro hRD hb))
        have HL := Lib.hid (And.intro hall (And.intro hxb hxs))
        have hlb : x.bl.length ≤ 4096 := by rw [hxb.1]; omega
        have hls : x.st.length ≤ 4096 := by omega
        have hv1 := containsBoolAll wr A x.bl hRA hlb hall.1
        have hv2 := containsBoolAll wr D x.st hRD hls hall.2
        rw [hxb.1] at hv1
        rw [hxs] at hv2
        have HV := Lib.hid (And.intro hv1 hv2)
        clear hv1 hv2 hall hQ hRA hRD hb hbf htd hxb hxs hlb hls
        go_wp2_with fail
        refine HV.out.1.mono ?_
        rintro e wr ⟨rfl, rfl⟩
        go_wp2_with fail
        refine HV.out.2.mono ?_
        rintro e wr ⟨rfl, rfl⟩
        go_wp2_with fail
        go_ret
        exact ⟨rfl, (HF.out _ HA.out.2.2).2.2⟩
      | cons b todo =>
        have hbf' : ∃ l y, B[b]? = some l ∧ blkB S l { x with todo := todo } = some y ∧ bfsB S B n y = true := by
          unfold bfsB at hbf
          rw [htd] at hbf
          simp only at hbf
          cases hB : B[b]? with
          | none => rw [hB] at hbf; simp at hbf
          | some l =>
            rw [hB] at hbf
            simp only at hbf
            cases hbl : blkB S l { x with todo := todo } with
            | none => rw [hbl] at hbf; simp at hbf
            | some y => rw [hbl] at hbf; exact ⟨l, y, rfl, hbl, hbf⟩
        obtain ⟨l, y, hBb, hbk, hbn⟩ := hbf'
        rw [htd] at hQ
        obtain ⟨g6, o6, c6, rfl, hc6, hc1⟩ := hQ.head
        have hQt := hQ.tail
        obtain ⟨kb, ko, kv, hkp, hkc0, hkr, hkb, hkn⟩ := HP.out.block hBb
        obtain ⟨lp, lc, rfl, hlo⟩ := hkr.opn
        simp only at hkp hkn
        subst hkp
        have hkc := ((HF.out _ hb).2.2.cell (p := ⟨kb, ko + b, none⟩) hkb).trans hkc0
        have hll := hBl l (List.mem_of_getElem? hBb)
        have hkn1 : (b : Int) < (B.length : Int) := by omega
        have htl : (1 : Int) ≤ ((todo.length + 1 : Nat) : Int) := by omega
        have p1 := (HF.out _ hb).1.c1
        simp only at p1
        have HS := Lib.hid (And.intro hRA (And.intro hRD hb))
        have hxb' : LB B { x with todo := todo } := ⟨hxb.1, by have := hxb.2; rw [htd] at this; simp only [List.length_cons] at this; show todo.length + x.bl.count false ≤ 4096; omega⟩
        have HN := Lib.hid (And.intro hbk (And.intro hbn (And.intro hxb' hxs)))
        have HLO := Lib.hid hlo
        obtain ⟨v6, hv6⟩ : ∃ v6, sliced (some ⟨g6, o6, none⟩) (1 : Int).toNat (todo.length + 1) c6 1 = v6 := ⟨_, rfl⟩
        have HV6 := Lib.hid hv6
        have hQt' : Que wr K0 v6 todo := by rw [← hv6]; exact hQt
        have HQt := Lib.hid hQt'
        clear hv6 hQt' hxb' hRA hRD hb hbk hbn hxb hxs hlo hbf htd hQ hQt hkr hBb hkc0
        go_wp2_with ((with_reducible refine slice_low (.tmp 30) 1 ?_ ?_ Tryz.underlying39 szInt (some ⟨g6, o6, none⟩) (todo.length + 1) c6 ?_ (by omega) htl v6 HV6.out ?_); rfl; rfl; rfl)
        clear hc6 hkc p1 htl hkn1 hc1
        go_loopw [38, 6] (fun i v wx => ∃ (j : Nat) (z : Bf), j ≤ l.length ∧ i = .int .i64 j ∧ blkB S (l.drop j) z = some y ∧ LB B z ∧ z.st.length = S.length ∧ Que wx K0 v z.todo ∧ Row Value.bool wx A 4 z.bl ∧ Row Value.bool wx D 4 z.st ∧ Below (w.heap.size + 1) W wx) (fun i _ _ => l.length - (intOf i).toNat)
        case atStart => exact ⟨0, _, by omega, rfl, HN.out.1, HN.out.2.2.1, HN.out.2.2.2, HQt.out, HS.out.1, HS.out.2.1, HS.out.2.2⟩
        case round =>
          have HBN := Lib.hid HN.out.2.1
          clear HN HQt HS
          obtain ⟨j, z, hj, rfl, hbk, hzb, hzs, hQ, hRA, hRD, hb⟩ := hrel
          by_cases hlt : j < l.length
          · have hq : (j : Int) < (l.length : Int) := by omega
            rcases HLO.out with h0 | ⟨lb, lo, rfl, hlc, hla, hlb⟩
            · rw [h0] at hlt; simp at hlt
            rw [drop_cons hlt] at hbk
            have hsb : ∃ z1, stB S (l.getD j 0) z = some z1 ∧ blkB S (l.drop (j + 1)) z1 = some y := by
              unfold blkB at hbk
              cases h1 : stB S (l.getD j 0) z with
              | none => rw [h1] at hbk; simp at hbk
              | some z1 => rw [h1] at hbk; exact ⟨z1, rfl, hbk⟩
            obtain ⟨z1, hst, hbk1⟩ := hsb
            obtain ⟨m, hm, hms, hk⟩ := stB_kids hst
            have hml : m < S.length := by rw [← hzs]; exact (List.getElem?_eq_some_iff.1 hms).1
            obtain ⟨s, hs⟩ : ∃ s, S[m]? = some s := ⟨_, List.getElem?_eq_getElem hml⟩
            rw [at'_of hs] at hk
            have hcl : wr.cell? ⟨lb, lo + j, none⟩ = some (.int .i64 (m : Int)) := by
              rw [(hla.below (HF.out _ hb).2.2 hlb).cell 0 j hlt, ← hm, List.getD_eq_getElem?_getD]; rfl
            have hls : z.st.length ≤ 4096 := by omega
            have hv1 := dVisit wr D z.st m hRD hls hms
            rw [hzs] at hv1
            have HV := Lib.hid hv1
            have HS := Lib.hid (And.intro hQ (And.intro hRA (And.intro hRD hb)))
            have HN := Lib.hid (And.intro hbk1 (And.intro hk (And.intro hzb hzs)))
            clear hv1 hQ hRA hRD hb hbk hbk1 hk hzb hzs hst hm hms hls hla
            go_wp2_with fail
            refine HV.out.mono ?_
            rintro e w4 ⟨rfl, hw4⟩
            have hQ4 : Que w4 K0 u6 z.todo := by rw [hw4]; exact HS.out.1.set hlD _ _
            have hRA4 : Row Value.bool w4 A 4 z.bl := by rw [hw4]; exact HS.out.2.1.set_other hAD _ _
            have hRD4 : Row Value.bool w4 D 4 (z.st.set m true) := by rw [hw4]; exact HS.out.2.2.1.set m true
            have hb4 : Below (w.heap.size + 1) W w4 := by rw [hw4]; exact below_set HS.out.2.2.2 _ hD _
            clear hw4 hcl HV HS
            go_upto_region 13 with (fail)
            obtain ⟨sb, so, hsp, hA0, hsbl, hin⟩ := HP.out.stmt hs
            simp only at hsp hin
            subst hsp
            have hm1 : (m : Int) < (S.length : Int) := by omega
            have hFA : ∀ X, Below w4.heap.size w4 X → X.cell? ⟨w.heap.size, 0, none⟩ = some (.slice (some ⟨sb, so, none⟩) S.length sc) ∧ X.cell? ⟨sb, so + m * 33 + 31, none⟩ = some (.int .i64 s.t) ∧ X.cell? ⟨sb, so + m * 33 + 32, none⟩ = some (.int .i64 s.e) := fun X hX => by
              have h := HF.out X (hb4.trans (hX.mono (Nat.le_trans (Nat.succ_le_of_lt hs0) hb4.size)))
              have h0 := hA0.below h.2.2 hsbl
              exact ⟨h.1.c0, h0 31 (by rw [St.cs_length]; omega), h0 32 (by rw [St.cs_length]; omega)⟩
            have HFA := Lib.hid hFA
            have HS := Lib.hid (And.intro hQ4 (And.intro hRA4 (And.intro hRD4 hb4)))
            have hA4 := hRA4.lt
            have hw4s : w.heap.size + 1 ≤ w4.heap.size := by omega
            have hK4 : A < w4.heap.size ∧ D < w4.heap.size := ⟨hRA4.lt, hRD4.lt⟩
            clear hFA hA0 hQ4 hRA4 hRD4 hb4
            refine wp_region_held_drew (S := fun X => Below w4.heap.size w4 X) rfl (Below.refl _ _).drew fun hS => ?_
            refine takeD (i := 0) (d := 47) (v := .pointer (some ⟨w.heap.size, 0, none⟩)) rfl rfl (by kernel_rfl) (by kernel_rfl) (by kernel_rfl) (fun c a w h => h) (yieldsIf_op rfl (fun w => by first | rfl | kernel_rfl | (go_simp; done))) hS ?_
            simp only [List.setIfInBounds_toArray, List.set_cons_succ, List.set_cons_zero]
            refine takeD (i := 1) (d := 48) (v := .slice (some ⟨sb, so, none⟩) S.length sc) rfl rfl (by kernel_rfl) (by kernel_rfl) (by kernel_rfl) (fun c a w h => h) (.inl ⟨by first | rfl | kernel_rfl, fun W' h => by obtain ⟨q0, q1, q2⟩ := HFA.out W' h; go_simp⟩) hS ?_
            simp only [List.setIfInBounds_toArray, List.set_cons_succ, List.set_cons_zero]
            refine takeD (i := 2) (d := 49) (v := .int .i64 (m : Nat)) rfl rfl (by kernel_rfl) (by kernel_rfl) (by kernel_rfl) (fun c a w h => h) (yieldsIf_op rfl (fun w => by first | rfl | kernel_rfl | (go_simp; done))) hS ?_
            simp only [List.setIfInBounds_toArray, List.set_cons_succ, List.set_cons_zero]
            refine takeD (i := 3) (d := 50) (v := .pointer (some ⟨sb, so + m * 33, none⟩)) rfl rfl (by kernel_rfl) (by kernel_rfl) (by kernel_rfl) (fun c a w h => h) (yieldsIf_op rfl (fun w => by go_simp)) hS ?_
            simp only [List.setIfInBounds_toArray, List.set_cons_succ, List.set_cons_zero]
            refine takeD (i := 4) (d := 51) (v := .pointer (some ⟨sb, so + m * 33 + 31, none⟩)) rfl rfl (by kernel_rfl) (by kernel_rfl) (by kernel_rfl) (fun c a w h => h) (yieldsIf_op rfl (fun w => by first | rfl | kernel_rfl | (go_simp; done))) hS ?_
            simp only [List.setIfInBounds_toArray, List.set_cons_succ, List.set_cons_zero]
            refine takeD (i := 5) (d := 52) (v := .int .i64 s.t) rfl rfl (by kernel_rfl) (by kernel_rfl) (by kernel_rfl) (fun c a w h => h) (.inl ⟨by first | rfl | kernel_rfl, fun W' h => by obtain ⟨q0, q1, q2⟩ := HFA.out W' h; go_simp⟩) hS ?_
            simp only [List.setIfInBounds_toArray, List.set_cons_succ, List.set_cons_zero]
            refine takeD (i := 6) (d := 53) (v := .pointer (some ⟨w.heap.size, 0, none⟩)) rfl rfl (by kernel_rfl) (by kernel_rfl) (by kernel_rfl) (fun c a w h => h) (yieldsIf_op rfl (fun w => by first | rfl | kernel_rfl | (go_simp; done))) hS ?_
            simp only [List.setIfInBounds_toArray, List.set_cons_succ, List.set_cons_zero]
            refine takeD (i := 7) (d := 54) (v := .slice (some ⟨sb, so, none⟩) S.length sc) rfl rfl (by kernel_rfl) (by kernel_rfl) (by kernel_rfl) (fun c a w h => h) (.inl ⟨by first | rfl | kernel_rfl, fun W' h => by obtain ⟨q0, q1, q2⟩ := HFA.out W' h; go_simp⟩) hS ?_
            simp only [List.setIfInBounds_toArray, List.set_cons_succ, List.set_cons_zero]
            refine takeD (i := 8) (d := 55) (v := .int .i64 (m : Nat)) rfl rfl (by kernel_rfl) (by kernel_rfl) (by kernel_rfl) (fun c a w h => h) (yieldsIf_op rfl (fun w => by first | rfl | kernel_rfl | (go_simp; done))) hS ?_
            simp only [List.setIfInBounds_toArray, List.set_cons_succ, List.set_cons_zero]
            refine takeD (i := 9) (d := 56) (v := .pointer (some ⟨sb, so + m * 33, none⟩)) rfl rfl (by kernel_rfl) (by kernel_rfl) (by kernel_rfl) (fun c a w h => h) (yieldsIf_op rfl (fun w => by go_simp)) hS ?_
            simp only [List.setIfInBounds_toArray, List.set_cons_succ, List.set_cons_zero]
            refine takeD (i := 10) (d := 57) (v := .pointer (some ⟨sb, so + m * 33 + 32, none⟩)) rfl rfl (by kernel_rfl) (by kernel_rfl) (by kernel_rfl) (fun c a w h => h) (yieldsIf_op rfl (fun w => by first | rfl | kernel_rfl | (go_simp; done))) hS ?_
            simp only [List.setIfInBounds_toArray, List.set_cons_succ, List.set_cons_zero]
            refine takeD (i := 11) (d := 58) (v := .int .i64 s.e) rfl rfl (by kernel_rfl) (by kernel_rfl) (by kernel_rfl) (fun c a w h => h) (.inl ⟨by first | rfl | kernel_rfl, fun W' h => by obtain ⟨q0, q1, q2⟩ := HFA.out W' h; go_simp⟩) hS ?_
            simp only [List.setIfInBounds_toArray, List.set_cons_succ, List.set_cons_zero]
            refine takeD (i := 14) (d := 61) (v := .int .i64 0) rfl rfl (by kernel_rfl) (by kernel_rfl) (by kernel_rfl) (fun c a w h => h) (yieldsIf_op rfl (fun w => by first | rfl | kernel_rfl | (go_simp; done))) hS ?_
            simp only [List.setIfInBounds_toArray, List.set_cons_succ, List.set_cons_zero]
            refine wpAnyH_ready (rs := [12]) (by kernel_rfl) (by simp) (AllReadyH.cons rfl (fun K' hK => ?_) AllReadyH.nil)
            generalize hX0 : w4.drew = X0 at hS ⊢
            have hx0 : X0.heap.size = w4.heap.size := by rw [← hX0]; rfl
            have hU : Row iV (X0.alloc (.cells #[.int .i64 s.t, .int .i64 s.e] 3)) X0.heap.size 3 [s.t, s.e] := Row.new _ _ rfl
            refine valueD (d := 59) (v := .slice (some ⟨X0.heap.size, 0, none⟩) 2 2) (w' := X0.alloc (.cells #[.int .i64 s.t, .int .i64 s.e] 3)) rfl rfl (by first | rfl | kernel_rfl) ?_
            have hS1 := hS.alloc hS.size (.cells #[.int .i64 s.t, .int .i64 s.e] 3)
            refine hK.out _ _ hS1 fun _ => ?_
            clear hK hX0 hS
            simp only [List.setIfInBounds_toArray, List.set_cons_succ, List.set_cons_zero]
            rw [hx0] at hU ⊢
            generalize (X0.alloc (.cells #[.int .i64 s.t, .int .i64 s.e] 3)) = X1 at hU hS1 ⊢
            have hS := hS1
            clear hS1 hx0
            refine takeD (i := 13) (d := 60) (v := .int .i64 2) rfl rfl (by kernel_rfl) (by kernel_rfl) (by kernel_rfl) (fun c a w h => h) (yieldsIf_op rfl (fun w => by first | rfl | kernel_rfl | (go_simp; done))) hS ?_
            simp only [List.setIfInBounds_toArray, List.set_cons_succ, List.set_cons_zero]
            refine wpAnyH_done (by kernel_rfl) ?_ _
            obtain ⟨hQ4, hRA4, hRD4, hb4⟩ := HS.out
            have hQ5 := hQ4.below hS
            have hRA5 := hRA4.below hS hRA4.lt
            have hRD5 := hRD4.below hS hRD4.lt
            have hb5 := hb4.trans (hS.mono hw4s)
            have hne5 : ∀ g, u6.ownBlock = some g → g ≠ w4.heap.size := fun g hg => by have := (hQ4.2.1 g hg).2; omega
            have hUl := hU.lt
            clear HS hQ4 hRA4 hRD4 hb4 hS HFA hm1 hin
            generalize w4.heap.size = U at hU hUl hne5 hw4s hK4 hA4 ⊢
            go_wp2_with fail
            go_loopw [61, 6] (fun i v wy => ∃ (j2 : Nat) (z' : Bf), j2 ≤ 2 ∧ i = .int .i64 j2 ∧ kidL ([s.t, s.e].drop j2) z' = some z1 ∧ LB B z' ∧ z'.st.length = S.length ∧ Que wy K0 v z'.todo ∧ Row Value.bool wy A 4 z'.bl ∧ Row Value.bool wy D 4 z'.st ∧ Row iV wy U 3 [s.t, s.e] ∧ (∀ g, v.ownBlock = some g → g ≠ U) ∧ Below (w.heap.size + 1) W wy) (fun i _ _ => 2 - (intOf i).toNat)
            case atStart => exact ⟨0, _, by omega, rfl, HN.out.2.1, HN.out.2.2.1, by simpa using HN.out.2.2.2, hQ5, hRA5, hRD5, hU, hne5, hb5⟩
            case round =>
              have HM := Lib.hid HN.out.1
              clear HN hQ5 hRA5 hRD5 hU hne5 hb5 hUl
              obtain ⟨j2, z', hj2, rfl, hk, hzb, hzs, hQ, hRA, hRD, hU, hne, hb⟩ := hrel
              by_cases hlt2 : j2 < 2
              · have hq2 : (j2 : Int) < 2 := by omega
                rw [drop_cons (l := [s.t, s.e]) hlt2] at hk
                have hce : wr.cell? ⟨U, j2, none⟩ = some (.int .i64 ([s.t, s.e].getD j2 0)) := by rw [hU.cell?, List.getElem?_eq_getElem hlt2, List.getD_eq_getElem?_getD, List.getElem?_eq_getElem hlt2]; rfl
                generalize [s.t, s.e].getD j2 0 = c at hk hce
                have hUl := hU.lt
                by_cases hc1 : c = -1
                · subst hc1
                  have hk' : kidL ([s.t, s.e].drop (j2 + 1)) z' = some z1 := by simpa [kidL, kidB] using hk
                  have HS := Lib.hid (And.intro hk' (And.intro hzb (And.intro hzs (And.intro hQ (And.intro hRA (And.intro hRD (And.intro hU (And.intro hne hb))))))))
                  clear hk hk' hzb hzs hQ hRA hRD hU hne hb
                  go_wp2_with fail
                  go_roundw
                  case rel => exact ⟨j2 + 1, z', by omega, by go_num, HS.out⟩
                  case measure => simp [intOf]; omega
                · have hkk : ∃ q : Nat, c = q ∧ z'.bl[q]? = some false ∧ kidL ([s.t, s.e].drop (j2 + 1)) { z' with bl := z'.bl.set q true, todo := z'.todo ++ [q] } = some z1 := by
                    unfold kidL kidB at hk
                    rw [if_neg hc1] at hk
                    by_cases hcc : 0 ≤ c ∧ z'.bl[c.toNat]? = some false
                    · rw [if_pos hcc] at hk
                      exact ⟨c.toNat, by omega, hcc.2, hk⟩
                    · rw [if_neg hcc] at hk
                      simp at hk
                  obtain ⟨q, rfl, hqf, hk'⟩ := hkk
                  have hql : q < z'.bl.length := (List.getElem?_eq_some_iff.1 hqf).1
                  have hbl : z'.bl.length ≤ 4096 := by rw [hzb.1]; omega
                  have hv1 := dVisit wr A z'.bl q hRA hbl hqf
                  rw [hzb.1] at hv1
                  have hcb : ((q : Int) == -1) = false := by simp
                  have htd : z'.todo.length ≤ 4096 := by have := hzb.2; omega
                  have hzb2 := hzb.push hqf
                  have HV := Lib.hid hv1
                  have HS := Lib.hid (And.intro hk' (And.intro hzb2 (And.intro hzs (And.intro hQ (And.intro hRA (And.intro hRD (And.intro hU (And.intro hne hb))))))))
                  clear hv1 hzb2 hk hk' hzb hzs hQ hRA hRD hU hne hb hc1 hqf hbl
                  go_wp2_with fail
                  refine HV.out.mono ?_
                  rintro e w5 ⟨rfl, hw5⟩
                  obtain ⟨hk', hzb, hzs, hQ, hRA, hRD, hU, hne, hb⟩ := HS.out
                  have hQ5 : Que w5 K0 u6 z'.todo := by rw [hw5]; exact hQ.set hlA _ _
                  have hRA5 : Row Value.bool w5 A 4 (z'.bl.set q true) := by rw [hw5]; exact hRA.set q true
                  have hRD5 : Row Value.bool w5 D 4 z'.st := by rw [hw5]; exact hRD.set_other (Ne.symm hAD) _ _
                  have hU5 : Row iV w5 U 3 [s.t, s.e] := by rw [hw5]; exact hU.set_other (by omega) _ _
                  have hb5 : Below (w.heap.size + 1) W w5 := by rw [hw5]; exact below_set hb _ hA _
                  have HK := Lib.hid (And.intro hk' (And.intro hzb hzs))
                  clear hw5 hQ hRA hRD hU hb HS HV hk' hzb hzs hce
                  have HR := Lib.hid (And.intro hRA5 (And.intro hRD5 (And.intro hU5 hb5)))
                  clear hRA5 hRD5 hU5 hb5
                  have hneA : some A ≠ u6.ownBlock := fun e => by have := (hQ5.2.1 A e.symm).1; omega
                  have hneD : some D ≠ u6.ownBlock := fun e => by have := (hQ5.2.1 D e.symm).1; omega
                  have hneU : some U ≠ u6.ownBlock := fun e => hne U e.symm rfl
                  have hown : ∀ k, u6.ownBlock = some k → w.heap.size + 1 ≤ k := fun k e => by have := (hQ5.2.1 k e).1; omega
                  have hU5s : U < w5.heap.size := HR.out.2.2.1.lt
                  have hb5s : w.heap.size + 1 ≤ w5.heap.size := by have := hQ5.2.2; omega
                  go_wp2_with (at_builtin; (with_reducible refine append_que eltInt (.tmp 72) (.tmp 74) ?_ ?_ ?_ hQ5 q ?_ htd ?_); rfl; rfl; rfl; rfl; (intro v' w6 hQ6 hG6 hne6); (refine Pause.back ?_))
                  obtain ⟨hRA5, hRD5, hU5, hb5⟩ := HR.out
                  have hRA6 := (hRA5.alloc (.cells #[.int .i64 (q : Int)] 3)).grown hG6 hneA
                  have hRD6 := (hRD5.alloc (.cells #[.int .i64 (q : Int)] 3)).grown hG6 hneD
                  have hU6 := (hU5.alloc (.cells #[.int .i64 (q : Int)] 3)).grown hG6 hneU
                  have hb6 := (hb5.alloc hb5s (.cells #[.int .i64 (q : Int)] 3)).grown hG6 (by simp; omega) (fun k e => hown k e)
                  have hne7 : ∀ g, v'.ownBlock = some g → g ≠ U := fun g e => by
                    rcases hne6 g e with h | h
                    · exact hne g h
                    · omega
                  have HS := Lib.hid (And.intro HK.out.1 (And.intro HK.out.2.1 (And.intro HK.out.2.2 (And.intro hQ6 (And.intro hRA6 (And.intro hRD6 (And.intro hU6 (And.intro hne7 hb6))))))))
                  clear hRA5 hRD5 hU5 hb5 hRA6 hRD6 hU6 hb6 hne7 hne6 hG6 hQ6 hQ5 HK HR hneA hneD hneU hown hne
                  refine Pause.out ?_
                  go_wp2_with fail
                  go_roundw
                  case rel => exact ⟨j2 + 1, _, by omega, by go_num, HS.out⟩
                  case measure => simp [intOf]; omega
              · obtain rfl : j2 = 2 := by omega
                have hz : z' = z1 := by simpa [kidL] using hk
                subst hz
                have HS := Lib.hid (And.intro HM.out (And.intro hzb (And.intro hzs (And.intro hQ (And.intro hRA (And.intro hRD hb))))))
                clear hk hzb hzs hQ hRA hRD hU hne hb
                go_wp2_with fail
                go_roundw
                case rel => exact ⟨j + 1, z', by omega, by go_num, HS.out⟩
                case measure => simp [intOf]; omega
          · obtain rfl : j = l.length := by omega
            rw [List.drop_length] at hbk
            have hzy : z = y := by unfold blkB at hbk; exact Option.some.inj hbk
            subst hzy
            have HS := Lib.hid (And.intro hzb (And.intro hzs (And.intro hQ (And.intro hRA (And.intro hRD hb)))))
            clear hbk hzb hzs hQ hRA hRD hb
            go_wp2_with fail
            go_roundg n
            case measure => omega
            case rel => exact ⟨z, HBN.out, HS.out⟩
end Go.Proofs.YtllomcmhkocdfaaGreatDoor

/- A program of valid statements that form a tree is well-formed. -/
namespace Go.Proofs.YtllomcmhkocdfaaGreatDoor
open Go.RowKit Mem
set_option maxRecDepth 100000

/-- a program that dialect.Valid accepts -/
structure PgOk (S : List St) (B : List (List Int)) : Prop where
  s64 : S.length ≤ 64
  b129 : B.length ≤ 129
  bl : ∀ l ∈ B, l.length ≤ 4096
  tree : treeB S B
  chk : ∀ s ∈ S, ChkOk s

set_option maxHeartbeats 8000000 in
theorem dValidG {S : List St} {B : List (List Int)} (ss bs : Sl) (hO : PgOk S B) (w : World) (hp : PgM w ss bs S B) :
    Calls Tryz.prog 24 #[.agg #[ss.v, bs.v]] w fun e w' => e = .returned (.int .i64 0) ∧ Below w.heap.size w w' := by
  obtain ⟨sp, sn, sc⟩ := ss
  obtain ⟨kp, kn, kc⟩ := bs
  obtain rfl : sn = S.length := hp.ns
  obtain rfl : kn = B.length := hp.nb
  have HP := Lib.hid hp
  have HO := Lib.hid hO
  have hb1 : ¬ (129 < (B.length : Int)) := by have := hO.b129; omega
  have hb0 : ((B.length : Int) == 0) = false := by have := hO.tree.1; simp; intro h; rw [h] at this; simp at this
  have hs1 : decide (64 < (S.length : Int)) = false := by have := hO.s64; simp; omega
  have hS64 := hO.s64
  clear hp hO
  go_enter Tryz.func24, Tryz.ntmps24
  have hR0 : PgBox (w.alloc (.cells #[.slice sp S.length sc, .slice kp B.length kc] 28)) w.heap.size ⟨sp, S.length, sc⟩ ⟨kp, B.length, kc⟩ := World.alloc_heap_new _ _
  have hBw : Below w.heap.size w (w.alloc (.cells #[.slice sp S.length sc, .slice kp B.length kc] 28)) := (Below.refl _ _).alloc (Nat.le_refl _) _
  have hs0 : w.heap.size < (w.alloc (.cells #[.slice sp S.length sc, .slice kp B.length kc] 28)).heap.size := by simp
  go_upto_region 1 with (fail)
  generalize (w.alloc (.cells #[.slice sp S.length sc, .slice kp B.length kc] 28)) = W at *
  have HF : Hid (∀ X, Below (w.heap.size + 1) W X → PgBox X w.heap.size ⟨sp, S.length, sc⟩ ⟨kp, B.length, kc⟩ ∧ PgM X ⟨sp, S.length, sc⟩ ⟨kp, B.length, kc⟩ S B ∧ Below w.heap.size w X) := Lib.hid fun X hX => by
    have hX0 : Below w.heap.size w X := hBw.trans (hX.mono (Nat.le_succ _))
    exact ⟨hR0.below hX (Nat.lt_succ_self _), HP.out.below hX0, hX0⟩
  clear hR0 hBw
  have hW : Below (w.heap.size + 1) W W := Below.refl _ _
  have p0 := (HF.out W hW).1.c0
  have p1 := (HF.out W hW).1.c1
  simp only at p0 p1
  go_wp2_with fail
  clear p0 p1
  go_loopw [23] (fun i wr => ∃ j : Nat, j ≤ S.length ∧ i = .int .i64 j ∧ Below (w.heap.size + 1) W wr) (fun i _ => S.length - (intOf i).toNat)
  case atStart => exact ⟨0, by omega, rfl, hW⟩
  case round =>
    clear hW
    obtain ⟨j, hj, rfl, hb⟩ := hrel
    by_cases hlt : j < S.length
    · have hq : (j : Int) < (S.length : Int) := by omega
      obtain ⟨s, hs⟩ : ∃ s, S[j]? = some s := ⟨_, List.getElem?_eq_getElem hlt⟩
      have hmem := List.mem_of_getElem? hs
      obtain ⟨sb, so, hsp, hA0, hsbl, hin⟩ := HP.out.stmt hs
      simp only at hsp
      subst hsp
      have hA : At oV wr sb (so + j * 33) s.cs := hA0.below (HF.out _ hb).2.2 hsbl
      have HSD := Lib.hid ((HP.out.sd s hmem).below (HF.out _ hb).2.2)
      obtain ⟨C, HC⟩ : ∃ C, Hid (C = (s.cs.map oV).toArray) := ⟨_, Lib.hid rfl⟩
      have hZ : Row oV (wr.alloc (.cells zStmtC 45)) wr.heap.size 45 (stC 0 0 ⟨#[]⟩ 0 0) := Row.new _ _ rfl
      have hWl : w.heap.size + 1 ≤ wr.heap.size := Nat.le_trans hs0 hb.size
      have hW1 : Below (w.heap.size + 1) W (wr.alloc (.cells zStmtC 45)) := hb.alloc hWl _
      have hbw : Below wr.heap.size wr (wr.alloc (.cells zStmtC 45)) := (Below.refl _ _).alloc (Nat.le_refl _) _
      clear hA0 hb hs hin hsbl
      go_wp2_with (first
        | ((with_reducible refine load_agg (f := oV) (l := s.cs) (aggSt _) (.tmp 25) ?_ ?_ sb (so + j * 33) ?_ hA HC.out ?_); rfl; rfl; rfl)
        | ((with_reducible refine store_agg (f := oV) (l := stC 0 0 ⟨#[]⟩ 0 0) (l' := s.cs) (t := 45) (C := C) (aggSt _) (.tmp 4) (.tmp 26) ?_ ?_ wr.heap.size ?_ ?_ ?_ hZ ?_ oV_one ?_); rfl; rfl; rfl; exact HC.out; rfl; rfl; (intro W5 hs5 hG5 hz5))
        | ((with_reducible refine load_agg (f := oV) (l := s.cs) (aggSt _) (.tmp 4) ?_ ?_ wr.heap.size 0 ?_ hs5.at HC.out ?_); rfl; rfl; rfl))
      have hW5 : Below (w.heap.size + 1) W W5 := hW1.grown hG5 (by simp; omega) (fun k e => by cases e; exact hWl)
      have hw5 : Below wr.heap.size wr W5 := hbw.grown hG5 (by simp) (fun k e => by cases e; exact Nat.le_refl _)
      refine (HO.out.chk s hmem W5 C (HSD.out.below hw5) HC).mono ?_
      rintro e W6 ⟨rfl, hB6⟩
      have hW6 : Below (w.heap.size + 1) W W6 := hW5.trans (hB6.mono (Nat.le_trans hWl (Nat.le_trans (by simp) (Nat.le_of_eq hz5.symm))))
      clear hZ hW1 hbw hs5 hG5 hz5 hW5 hw5 hB6 hA HSD hWl
      have H6 := Lib.hid hW6
      clear hW6
      go_wp2_with fail
      go_roundw
      case rel => exact ⟨j + 1, by omega, by go_num, H6.out⟩
      case measure => simp [intOf]; omega
    · obtain rfl : j = S.length := by omega
      have p0 := (HF.out wr hb).1.c0
      have p1 := (HF.out wr hb).1.c1
      simp only at p0 p1
      have H6 := Lib.hid hb
      clear hb
      go_wp2_with fail
      refine (dTree ⟨sp, S.length, sc⟩ ⟨kp, B.length, kc⟩ HO.out.s64 HO.out.b129 HO.out.bl HO.out.tree wr (HF.out wr H6.out).2.1).mono ?_
      rintro e W7 ⟨rfl, hB7⟩
      have hB8 := (HF.out wr H6.out).2.2
      have H8 := Lib.hid (hB8.trans (hB7.mono hB8.size))
      clear hB7 hB8
      go_wp2_with fail
      go_ret
      exact ⟨rfl, H8.out⟩
end Go.Proofs.YtllomcmhkocdfaaGreatDoor
