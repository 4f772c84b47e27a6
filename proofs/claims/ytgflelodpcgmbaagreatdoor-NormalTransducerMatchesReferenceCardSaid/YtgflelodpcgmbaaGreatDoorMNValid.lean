/- normal.Valid. -/
import Derived.Test.YtgflelodpcgmbaaGreatDoorMNorm
import Derived.Deep.DeepCutAuto
namespace Go.Proofs.YtgflelodpcgmbaaGreatDoor
open Go Go.RowKit Mem
set_option maxRecDepth 100000

def szSum (l : List Cl) : Int := (l.map Cl.size).sum
def zc : Cl := ⟨0, 0, 0, 0⟩
def unAll (l : List Cl) : Cl := l.foldl Cl.union zc
theorem size_lo (c : Cl) : 0 ≤ c.size := by
  have n1 := X_nonneg (oc64 c.a); have n2 := X_nonneg (oc64 c.b); have n3 := X_nonneg (oc64 c.c); have n4 := X_nonneg (oc64 c.d)
  unfold Cl.size; omega
theorem size_hi (c : Cl) : c.size ≤ 508 := by
  have b1 := oc64_le c.a; have b2 := oc64_le c.b; have b3 := oc64_le c.c; have b4 := oc64_le c.d
  unfold Cl.size; omega
theorem szSum_lo (l : List Cl) : 0 ≤ szSum l := by
  induction l with
  | nil => decide
  | cons c l ih => have := size_lo c; simp only [szSum, List.map_cons, List.sum_cons] at ih ⊢; omega
theorem szSum_hi (l : List Cl) : szSum l ≤ 508 * l.length := by
  induction l with
  | nil => decide
  | cons c l ih => have := size_hi c; simp only [szSum, List.map_cons, List.sum_cons, List.length_cons] at ih ⊢; omega
theorem szSum_succ (l : List Cl) (k : Nat) (h : k < l.length) : szSum (l.take (k + 1)) = szSum (l.take k) + l[k].size := by
  rw [szSum, List.take_succ_eq_append_getElem h, List.map_append, List.sum_append]
  simp only [szSum, List.map_cons, List.map_nil, List.sum_cons, List.sum_nil]
  omega
theorem unAll_succ (l : List Cl) (k : Nat) (h : k < l.length) : unAll (l.take (k + 1)) = (unAll (l.take k)).union l[k] := by
  rw [unAll, List.take_succ_eq_append_getElem h, List.foldl_append]
  rfl
/-- a valid normalizer, by the program's own test -/
def NZ.valid (N : NZ) : Bool :=
  decide (N.cls.length ≤ 256 ∧ 1 ≤ N.rows.length ∧ N.rows.length ≤ 64 ∧ N.ends.length = N.rows.length) && N.cls.all (fun c => decide (c.size ≠ 0)) && decide (szSum N.cls = 256) && decide ((unAll N.cls).size = 256) &&
    N.rows.all (fun r => decide (r.length = N.cls.length) && !r.any (·.bad N.rows.length))

theorem valid_iff (N : NZ) : N.valid = true ↔ (N.cls.length ≤ 256 ∧ 1 ≤ N.rows.length ∧ N.rows.length ≤ 64 ∧ N.ends.length = N.rows.length) ∧ (∀ c ∈ N.cls, c.size ≠ 0) ∧ szSum N.cls = 256 ∧ (unAll N.cls).size = 256 ∧
    ∀ r ∈ N.rows, r.length = N.cls.length ∧ r.any (·.bad N.rows.length) = false := by
  unfold NZ.valid
  simp only [Bool.and_eq_true, decide_eq_true_eq, List.all_eq_true, Bool.not_eq_true', and_assoc]
theorem not_valid {N : NZ} (h : N.valid = true → False) : N.valid = false := by
  cases hv : N.valid with
  | true => exact (h hv).elim
  | false => rfl

set_option maxHeartbeats 8000000 in
theorem nValid (w : World) (v : Value) (N : NZ) (hv : NzAt w v N) :
    Calls Tryz.prog 13 #[v] w fun e w' => e = .returned (.bool N.valid) ∧ Below w.heap.size w w' := by
  have hmf : ∀ (fn : Fn) (first cap : Array Value) (w : World), (Instr.makeFunc fn first cap).run Tryz.prog w = .ok (.func fn first cap) w := fun _ _ _ _ => rfl
  have HV := Lib.hid hv
  obtain ⟨vc, vr, ve, rfl, h1, h2, h3⟩ := hv
  obtain ⟨pc, kc, rfl⟩ := h1.slice
  obtain ⟨pr, kr, rfl⟩ := h2.slice
  obtain ⟨pe, ke, rfl⟩ := h3.slice
  have HC := Lib.hid h1
  have HR := Lib.hid h2
  clear h1 h2 h3
  go_enter Tryz.func13, Tryz.ntmps13
  go_upto_region 1 with (fail)
  obtain ⟨W, hW, hB, hs, g0⟩ : ∃ W, (w.alloc (.cells #[.slice pc N.cls.length kc, .slice pr N.rows.length kr, .slice pe N.ends.length ke] 26)) = W ∧ Below w.heap.size w W ∧ w.heap.size + 1 ≤ W.heap.size ∧ W.heap[w.heap.size]? = some (.cells #[.slice pc N.cls.length kc, .slice pr N.rows.length kr, .slice pe N.ends.length ke] 26 (0, 0)) :=
    ⟨_, rfl, (Below.refl _ _).alloc (Nat.le_refl _) _, by simp, World.alloc_heap_new _ _⟩
  rw [hW]
  clear hW
  have HF : Hid (∀ X, Below (w.heap.size + 1) W X → X.cell? ⟨w.heap.size, 0, none⟩ = some (.slice pc N.cls.length kc) ∧ X.cell? ⟨w.heap.size, 1, none⟩ = some (.slice pr N.rows.length kr) ∧ X.cell? ⟨w.heap.size, 2, none⟩ = some (.slice pe N.ends.length ke) ∧ RdK 4 clL X (.slice pc N.cls.length kc) N.cls ∧ RdR X (.slice pr N.rows.length kr) N.rows ∧ Below w.heap.size w X ∧ w.heap.size + 1 ≤ X.heap.size) := Lib.hid fun X hX => by
    have hX0 : Below w.heap.size w X := hB.trans (hX.mono (Nat.le_succ _))
    have hg := (hX.block w.heap.size (Nat.lt_succ_self _)).trans g0
    refine ⟨?_, ?_, ?_, HC.out.below hX0, HR.out.below hX0, hX0, Nat.le_trans hs hX.size⟩ <;> (unfold World.cell?; rw [hg]; rfl)
  have hX : Below (w.heap.size + 1) W W := Below.refl _ _
  clear hB hs g0
  obtain ⟨p0, p1, p2, _, _, hw, hs⟩ := HF.out W hX
  have no : ∀ b : Bool, (¬ (N.cls.length ≤ 256 ∧ 1 ≤ N.rows.length ∧ N.rows.length ≤ 64 ∧ N.ends.length = N.rows.length)) → N.valid = false := fun b h => by unfold NZ.valid; rw [decide_eq_false h]; rfl
  by_cases q1 : (256 : Int) < (N.cls.length : Int)
  · have hv := no true (by omega)
    go_wp2
    go_ret
    exact ⟨by first | rfl | (rw [hv]; rfl), hw⟩
  by_cases q2 : (N.rows.length : Int) < 1
  · have hv := no true (by omega)
    go_wp2
    go_ret
    exact ⟨by first | rfl | (rw [hv]; rfl), hw⟩
  by_cases q3 : (64 : Int) < (N.rows.length : Int)
  · have hv := no true (by omega)
    go_wp2
    go_ret
    exact ⟨by first | rfl | (rw [hv]; rfl), hw⟩
  by_cases q4 : (N.ends.length : Int) = (N.rows.length : Int)
  · have hZ0 : Row oV (W.alloc (.cells zCl 80)) W.heap.size 80 (clL zc) := Row.new _ _ rfl
    have hX0 := hX.alloc hs (.cells zCl 80)
    have p0' := (HF.out _ hX0).1
    have hlt0 : W.heap.size < (W.alloc (.cells zCl 80)).heap.size := by simp
    go_upto_region 4 with (fail)
    generalize (W.alloc (.cells zCl 80)) = W1 at hZ0 hX0 p0' hlt0 ⊢
    have hn1 : w.heap.size + 1 ≤ W.heap.size := hs
    generalize W.heap.size = n3 at hZ0 hlt0 hn1 ⊢
    clear p0 p1 p2 hw hs hX
    go_wp2_with fail
    have hcl : N.cls.length ≤ 256 := by omega
    go_loopw [4, 37] (fun sz i wr => ∃ (k : Nat), k ≤ N.cls.length ∧ i = .int .i64 k ∧ sz = .int .i64 (szSum (N.cls.take k)) ∧ Row oV wr n3 80 (clL (unAll (N.cls.take k))) ∧ Below (w.heap.size + 1) W wr ∧ (∀ j (h : j < N.cls.length), j < k → N.cls[j].size ≠ 0)) (fun _ i _ => N.cls.length - (intOf i).toNat)
    case atStart => exact ⟨0, by omega, rfl, rfl, hZ0, hX0, fun j h hj => by omega⟩
    case round =>
      clear hZ0 hX0 p0' hlt0
      obtain ⟨k, hk, rfl, rfl, hU, hX, hne⟩ := hrel
      have HNE := Lib.hid hne
      clear hne
      obtain ⟨p0, p1, p2, hc, _, hw, hs⟩ := HF.out _ hX
      by_cases hlt : k < N.cls.length
      · obtain ⟨bb, bo, rfl, hA, hcap, hbl⟩ := hc.elem k hlt
        have hq : (k : Int) < (N.cls.length : Int) := by omega
        have hZ6 : Row oV (wr.alloc (.cells zCl 80)) wr.heap.size 80 [ow 0, ow 0, ow 0, ow 0] := Row.new _ _ rfl
        go_upto_region 8 with (first
          | ((with_reducible refine load_agg (f := oV) (l := clL N.cls[k]) (C := clA N.cls[k]) aggCl (.tmp 39) ?_ ?_ bb (bo + k * 4) ?_ hA rfl ?_); rfl; rfl; rfl)
          | ((with_reducible refine store_agg (f := oV) (l := [ow 0, ow 0, ow 0, ow 0]) (l' := clL N.cls[k]) (t := 80) (C := clA N.cls[k]) aggCl (.tmp 6) (.tmp 40) ?_ ?_ wr.heap.size ?_ ?_ ?_ hZ6 ?_ oV_one ?_); rfl; rfl; rfl; rfl; rfl; rfl; (intro W2 hs2 hG2 hz2)))
        have hX2 := (hX.alloc hs (.cells zCl 80)).grown hG2 (by simp; omega) (fun k e => by cases e; omega)
        have hU2 := (hU.alloc (.cells zCl 80)).grown hG2 (by intro e; injection e with e; have := hU.lt; omega)
        have hne6 : n3 ≠ wr.heap.size := by have := hU.lt; omega
        clear hG2 hz2 hZ6 p0 p1 p2 hc hA hU hX hw hs hbl
        generalize wr.heap.size = n6 at hs2 hne6 ⊢
        go_wp2_with (first
          | ((with_reducible refine load_agg (f := oV) (l := clL N.cls[k]) (C := clA N.cls[k]) aggCl (.tmp 6) ?_ ?_ n6 0 ?_ hs2.at rfl ?_); rfl; rfl; rfl))
        refine (clSize W2 N.cls[k]).mono ?_
        rintro e W3 ⟨rfl, hB3⟩
        have hX3 := hX2.trans (hB3.mono (HF.out _ hX2).2.2.2.2.2.2)
        have hs3 := hs2.below hB3 hs2.lt
        have hU3 := hU2.below hB3 hU2.lt
        clear hB3 hs2 hU2 hX2
        by_cases hz : N.cls[k].size = 0
        · have hv : N.valid = false := not_valid fun h => ((valid_iff N).1 h).2.1 _ (List.getElem_mem hlt) hz
          have hw3 := (HF.out _ hX3).2.2.2.2.2.1
          go_wp2
          go_ret
          exact ⟨by first | rfl | (rw [hv]; rfl), hw3⟩
        · go_wp2_with (first
            | ((with_reducible refine load_agg (f := oV) (l := clL (unAll (N.cls.take k))) (C := clA (unAll (N.cls.take k))) aggCl (.tmp 3) ?_ ?_ n3 0 ?_ hU3.at rfl ?_); rfl; rfl; rfl)
            | ((with_reducible refine load_agg (f := oV) (l := clL N.cls[k]) (C := clA N.cls[k]) aggCl (.tmp 6) ?_ ?_ n6 0 ?_ hs3.at rfl ?_); rfl; rfl; rfl))
          refine (clUnion W3 (unAll (N.cls.take k)) N.cls[k]).mono ?_
          rintro e W4 ⟨rfl, hB4⟩
          have hX4 := hX3.trans (hB4.mono (HF.out _ hX3).2.2.2.2.2.2)
          have hs4 := hs3.below hB4 hs3.lt
          have hU4 := hU3.below hB4 hU3.lt
          have hl4 := (HF.out _ hX4).2.2.2.2.2.2
          clear hB4 hs3 hU3 hX3
          go_wp2_with (first
            | ((with_reducible refine store_agg (f := oV) (l := clL (unAll (N.cls.take k))) (l' := clL ((unAll (N.cls.take k)).union N.cls[k])) (t := 80) (C := clA ((unAll (N.cls.take k)).union N.cls[k])) aggCl (.tmp 3) (.tmp 46) ?_ ?_ n3 ?_ ?_ ?_ hU4 ?_ oV_one ?_); rfl; rfl; rfl; rfl; rfl; rfl; (intro W5 hU5 hG5 hz5); refine Pause.back ?_))
          have hs5 := hs4.grown hG5 (by intro e; injection e with e; omega)
          have hX5 := hX4.grown hG5 hl4 (fun k e => by cases e; omega)
          clear hG5 hz5 hs4 hU4 hX4 hl4
          refine Pause.out ?_
          go_wp2_with (first
            | ((with_reducible refine load_agg (f := oV) (l := clL N.cls[k]) (C := clA N.cls[k]) aggCl (.tmp 6) ?_ ?_ n6 0 ?_ hs5.at rfl ?_); rfl; rfl; rfl))
          refine (clSize W5 N.cls[k]).mono ?_
          rintro e W6 ⟨rfl, hB6⟩
          have hX6 := hX5.trans (hB6.mono (HF.out _ hX5).2.2.2.2.2.2)
          have hU6 := hU5.below hB6 hU5.lt
          clear hB6 hs5 hU5 hX5
          have hw1 : wrap64 (szSum (N.cls.take k) + N.cls[k].size) = szSum (N.cls.take (k + 1)) := by
            have a1 := szSum_lo (N.cls.take k)
            have a2 := szSum_hi (N.cls.take k)
            have a3 := size_lo N.cls[k]
            have a4 := size_hi N.cls[k]
            have a5 : (N.cls.take k).length ≤ 256 := by rw [List.length_take]; omega
            rw [szSum_succ _ _ hlt]
            unfold wrap64
            omega
          go_wp2_with fail
          go_roundw
          case rel =>
            refine ⟨k + 1, by omega, by go_num, by first | rfl | (rw [hw1]), by rw [unAll_succ _ _ hlt]; exact hU6, hX6, fun j h hj => ?_⟩
            rcases Nat.lt_or_ge j k with h1 | h1
            · exact HNE.out j h h1
            · obtain rfl : j = k := by omega
              exact hz
          case measure => simp [intOf]; omega
      · obtain rfl : k = N.cls.length := by omega
        rw [List.take_of_length_le (Nat.le_refl _)] at hU ⊢
        have hq : ¬ (N.cls.length : Int) < (N.cls.length : Int) := by omega
        by_cases z1 : szSum N.cls = 256
        · go_wp2_with (first
            | ((with_reducible refine load_agg_w (f := oV) (l := clL (unAll N.cls)) (C := clA (unAll N.cls)) aggCl (.tmp 3) ?_ ?_ n3 0 ?_ hU.at rfl ?_); rfl; rfl; rfl))
          refine (clSize wr (unAll N.cls)).mono ?_
          rintro e W7 ⟨rfl, hB7⟩
          have hX7 := hX.trans (hB7.mono hs)
          clear hU hB7 hX p0 p1 p2 hc hw hs
          obtain ⟨p0, p1, p2, hc, hR, hw, hs⟩ := HF.out _ hX7
          by_cases z2 : (unAll N.cls).size = 256
          · go_wp2_with fail
            go_loopw [62] (fun i wr => ∃ (k : Nat), k ≤ N.rows.length ∧ i = .int .i64 k ∧ Below (w.heap.size + 1) W wr ∧ (∀ j (h : j < N.rows.length), j < k → N.rows[j].length = N.cls.length ∧ N.rows[j].any (·.bad N.rows.length) = false)) (fun i _ => N.rows.length - (intOf i).toNat)
            case atStart => exact ⟨0, by omega, rfl, hX7, fun j h hj => by omega⟩
            case round =>
              clear p0 p1 p2 hc hR hw hs hX7
              obtain ⟨k, hk, rfl, hX, hok⟩ := hrel
              have HOK := Lib.hid hok
              clear hok
              obtain ⟨p0, p1, p2, _, hR, hw, hs⟩ := HF.out _ hX
              by_cases hlt : k < N.rows.length
              · obtain ⟨bb, bo, u, rfl, hu, hru, hcap, hbl⟩ := hR.elem k hlt
                obtain ⟨pu, cu, rfl⟩ := hru.slice
                have hq : (k : Int) < (N.rows.length : Int) := by omega
                by_cases z3 : (N.rows[k].length : Int) = (N.cls.length : Int)
                · go_wp2_with fail
                  refine (cellsBad _ _ N.rows[k] w.heap.size N.rows.length kr _ hru p1 hs (by omega)).mono ?_
                  rintro e W8 ⟨rfl, hB8⟩
                  have hX8 := hX.trans (hB8.mono hs)
                  have hw8 := (HF.out _ hX8).2.2.2.2.2.1
                  cases hbad : N.rows[k].any (·.bad N.rows.length) with
                  | true =>
                    have hv : N.valid = false := not_valid fun h => by have := (((valid_iff N).1 h).2.2.2.2 _ (List.getElem_mem hlt)).2; rw [hbad] at this; cases this
                    go_wp2
                    go_ret
                    exact ⟨by first | rfl | (rw [hv]; rfl), hw8⟩
                  | false =>
                    go_wp2_with fail
                    go_roundw
                    case rel =>
                      refine ⟨k + 1, by omega, by go_num, hX8, fun j h hj => ?_⟩
                      rcases Nat.lt_or_ge j k with h1 | h1
                      · exact HOK.out j h h1
                      · obtain rfl : j = k := by omega
                        exact ⟨by omega, hbad⟩
                    case measure => simp [intOf]; omega
                · have hv : N.valid = false := not_valid fun h => z3 (by have := (((valid_iff N).1 h).2.2.2.2 _ (List.getElem_mem hlt)).1; omega)
                  go_wp2
                  go_ret
                  exact ⟨by first | rfl | (rw [hv]; rfl), hw⟩
              · have hv : N.valid = true := (valid_iff N).2 ⟨by omega, fun c hc => by obtain ⟨j, hj, rfl⟩ := List.getElem_of_mem hc; exact HNE.out j hj hj, z1, z2, fun r hr => by obtain ⟨j, hj, rfl⟩ := List.getElem_of_mem hr; exact HOK.out j hj (by omega)⟩
                have hq : ¬ (k : Int) < (N.rows.length : Int) := by omega
                go_wp2
                go_ret
                exact ⟨by first | rfl | (rw [hv]; rfl), hw⟩
          · have hv : N.valid = false := not_valid fun h => z2 ((valid_iff N).1 h).2.2.2.1
            go_wp2
            go_ret
            exact ⟨by first | rfl | (rw [hv]; rfl), hw⟩
        · have hv : N.valid = false := not_valid fun h => z1 ((valid_iff N).1 h).2.2.1
          go_wp2
          go_ret
          exact ⟨by first | rfl | (rw [hv]; rfl), hw⟩
  · have hv := no true (by omega)
    go_wp2
    go_ret
    exact ⟨by first | rfl | (rw [hv]; rfl), hw⟩
end Go.Proofs.YtgflelodpcgmbaaGreatDoor
/- normal.open. -/
namespace Go.Proofs.YtgflelodpcgmbaaGreatDoor
open Go Go.RowKit Mem
set_option maxRecDepth 100000

/-- the cells of a stream -/
def stL (at_ : Int) (r : Bool) (vc vr ve out : OC) : List OC := [oi at_, ob r, vc, vr, ve, out]
def slO (p : Option Addr) (n c : Nat) : OC := ⟨.slice p n c, rfl⟩
def at0 (r : Bool) (a : Int) : Int := if r then 0 else a
/-- whether a state belongs to a normalizer -/
def NZ.okAt (N : NZ) (at_ : Int) : Bool := N.valid && decide (0 ≤ at_ ∧ at_ < (N.rows.length : Int))

set_option maxHeartbeats 8000000 in
theorem nOpen (w : World) (N : NZ) (pc pr pe : Option Addr) (kc kr ke : Nat) (at_ : Int) (r : Bool) (hv : NzAt w (.agg #[.slice pc N.cls.length kc, .slice pr N.rows.length kr, .slice pe N.ends.length ke]) N) :
    Calls Tryz.prog 30 #[.agg #[.slice pc N.cls.length kc, .slice pr N.rows.length kr, .slice pe N.ends.length ke], .agg #[.int .i64 at_, .bool r]] w fun e w' => Below w.heap.size w w' ∧
      ((N.okAt at_ = false ∧ e = .returned (.tuple #[.pointer none, .bool false])) ∨
       (N.okAt at_ = true ∧ ∃ xb, e = .returned (.tuple #[.pointer (some ⟨xb, 0, none⟩), .bool true]) ∧ w.heap.size ≤ xb ∧ Row oV w' xb 73 (stL (at0 r at_) r (slO pc N.cls.length kc) (slO pr N.rows.length kr) (slO pe N.ends.length ke) on))) := by
  have HV := Lib.hid hv
  clear hv
  go_enter Tryz.func30, Tryz.ntmps30
  go_upto_region 1 with (fail)
  obtain ⟨W, hW, hB, hs, g0, g1⟩ : ∃ W, ((w.alloc (.cells #[.slice pc N.cls.length kc, .slice pr N.rows.length kr, .slice pe N.ends.length ke] 26)).alloc (.cells #[.int .i64 at_, .bool r] 28)) = W ∧ Below w.heap.size w W ∧ w.heap.size + 2 ≤ W.heap.size ∧ W.heap[w.heap.size]? = some (.cells #[.slice pc N.cls.length kc, .slice pr N.rows.length kr, .slice pe N.ends.length ke] 26 (0, 0)) ∧ W.heap[w.heap.size + 1]? = some (.cells #[.int .i64 at_, .bool r] 28 (0, 0)) := by
    refine ⟨_, rfl, below_al (below_al (Below.refl _ _) (Nat.le_refl _) _) (Nat.le_refl _) _, by simp, ?_, ?_⟩
    all_goals repeat (first | (refine heap_new' _ _ _ ?_; (simp; done)) | (refine (Below.heap_alloc _ _ _ ?_).trans ?_; · (simp <;> omega)))
  rw [hW]
  clear hW
  have rn : Row oV W w.heap.size 26 [slO pc N.cls.length kc, slO pr N.rows.length kr, slO pe N.ends.length ke] := g0
  have rs : Row oV W (w.heap.size + 1) 28 [oi at_, ob r] := g1
  clear g0 g1
  have c0 : W.cell? ⟨w.heap.size, 0, none⟩ = some (.slice pc N.cls.length kc) := by rw [rn.cell?]; rfl
  have c1 : W.cell? ⟨w.heap.size, 1, none⟩ = some (.slice pr N.rows.length kr) := by rw [rn.cell?]; rfl
  have c2 : W.cell? ⟨w.heap.size, 2, none⟩ = some (.slice pe N.ends.length ke) := by rw [rn.cell?]; rfl
  go_wp2_with fail
  refine (nValid W _ N (HV.out.below hB)).mono ?_
  rintro e W1 ⟨rfl, hB1⟩
  replace rn := rn.below hB1 rn.lt
  replace rs := rs.below hB1 rs.lt
  replace hB := hB.trans (hB1.mono hB.size)
  clear c0 c1 c2 hB1
  have c0 : W1.cell? ⟨w.heap.size, 0, none⟩ = some (.slice pc N.cls.length kc) := by rw [rn.cell?]; rfl
  have c1 : W1.cell? ⟨w.heap.size, 1, none⟩ = some (.slice pr N.rows.length kr) := by rw [rn.cell?]; rfl
  have c2 : W1.cell? ⟨w.heap.size, 2, none⟩ = some (.slice pe N.ends.length ke) := by rw [rn.cell?]; rfl
  have s0 : W1.cell? ⟨w.heap.size + 1, 0, none⟩ = some (.int .i64 at_) := by rw [rs.cell?]; rfl
  have s1 : W1.cell? ⟨w.heap.size + 1, 1, none⟩ = some (.bool r) := by rw [rs.cell?]; rfl
  have f0 := rs.frozen 0
  cases hval : N.valid with
  | false =>
    go_wp2
    go_ret2
    exact ⟨hB, .inl ⟨by simp [NZ.okAt, hval], rfl⟩⟩
  | true =>
    by_cases q1 : at_ < 0
    · go_wp2
      go_ret2
      exact ⟨hB, .inl ⟨by unfold NZ.okAt; rw [decide_eq_false (by omega)]; simp, rfl⟩⟩
    have b1 : decide (at_ < 0) = false := decide_eq_false q1
    by_cases q2 : (N.rows.length : Int) ≤ at_
    · go_wp2
      go_ret2
      exact ⟨hB, .inl ⟨by unfold NZ.okAt; rw [decide_eq_false (by omega)]; simp, rfl⟩⟩
    have b2 : decide ((N.rows.length : Int) ≤ at_) = false := decide_eq_false q2
    have HOK := Lib.hid (show N.okAt at_ = true by unfold NZ.okAt; rw [decide_eq_true (by omega), hval]; rfl)
    cases r with
    | false =>
      have hfin : ∀ X, X = W1.alloc (.cells #[.int .i64 at_, .bool false, .slice pc N.cls.length kc, .slice pr N.rows.length kr, .slice pe N.ends.length ke, .slice none 0 0] 73) → Below w.heap.size w X ∧ Row oV X W1.heap.size 73 (stL at_ false (slO pc N.cls.length kc) (slO pr N.rows.length kr) (slO pe N.ends.length ke) on) := fun X hX => by
        subst hX; exact ⟨hB.alloc hB.size _, Row.new _ _ rfl⟩
      have HFIN := Lib.hid hfin
      clear hfin
      go_wp2
      go_ret2
      obtain ⟨x1, x2⟩ := HFIN.out _ rfl
      exact ⟨x1, .inr ⟨HOK.out, W1.heap.size, rfl, hB.size, x2⟩⟩
    | true =>
      have rs2 : Row oV (W1.setCell ⟨w.heap.size + 1, 0, none⟩ (.int .i64 0)) (w.heap.size + 1) 28 [oi 0, ob true] := rs.set 0 (oi 0)
      have rn2 := rn.set_other (b' := w.heap.size + 1) (by omega) 0 (.int .i64 0)
      have hB2 := below_set hB (b := w.heap.size + 1) 0 (by omega) (.int .i64 0)
      go_upto_region 5 with (fail)
      generalize (W1.setCell ⟨w.heap.size + 1, 0, none⟩ (.int .i64 0)) = W2 at rs2 rn2 hB2 ⊢
      clear c0 c1 c2 s0 s1 f0 rn rs hB
      have c0 : W2.cell? ⟨w.heap.size, 0, none⟩ = some (.slice pc N.cls.length kc) := by rw [rn2.cell?]; rfl
      have c1 : W2.cell? ⟨w.heap.size, 1, none⟩ = some (.slice pr N.rows.length kr) := by rw [rn2.cell?]; rfl
      have c2 : W2.cell? ⟨w.heap.size, 2, none⟩ = some (.slice pe N.ends.length ke) := by rw [rn2.cell?]; rfl
      have s0 : W2.cell? ⟨w.heap.size + 1, 0, none⟩ = some (.int .i64 0) := by rw [rs2.cell?]; rfl
      have s1 : W2.cell? ⟨w.heap.size + 1, 1, none⟩ = some (.bool true) := by rw [rs2.cell?]; rfl
      have hfin : ∀ X, X = W2.alloc (.cells #[.int .i64 0, .bool true, .slice pc N.cls.length kc, .slice pr N.rows.length kr, .slice pe N.ends.length ke, .slice none 0 0] 73) → Below w.heap.size w X ∧ Row oV X W2.heap.size 73 (stL 0 true (slO pc N.cls.length kc) (slO pr N.rows.length kr) (slO pe N.ends.length ke) on) := fun X hX => by
        subst hX; exact ⟨hB2.alloc hB2.size _, Row.new _ _ rfl⟩
      have HFIN := Lib.hid hfin
      clear hfin rn2 rs2
      go_wp2
      go_ret2
      obtain ⟨x1, x2⟩ := HFIN.out _ rfl
      exact ⟨x1, .inr ⟨HOK.out, W2.heap.size, rfl, hB2.size, x2⟩⟩
end Go.Proofs.YtgflelodpcgmbaaGreatDoor
