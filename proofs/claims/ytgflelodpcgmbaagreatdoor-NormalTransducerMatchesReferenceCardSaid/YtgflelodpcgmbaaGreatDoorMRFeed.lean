/- univocalref25.Feed. -/
import Derived.Test.YtgflelodpcgmbaaGreatDoorMRSize
import Derived.Test.YtgflelodpcgmbaaGreatDoorMPop
import Derived.Test.YtgflelodpcgmbaaGreatDoorMNWrite
namespace Go.Proofs.YtgflelodpcgmbaaGreatDoor
open Go Go.RowKit Mem
set_option maxRecDepth 100000

theorem NZ.run_stop (N : NZ) (bs : List UInt8) : ∀ s : St, s.ref = true → N.run s bs = s := by
  induction bs with
  | nil => intro s _; rfl
  | cons b bs ih =>
    intro s h
    have h1 : N.step s b = s := by unfold NZ.step; rw [if_pos h]
    show N.run (N.step s b) bs = s
    rw [h1]
    exact ih s h
theorem NZ.run_at (N : NZ) (s : St) (bs : List UInt8) (k : Nat) : N.run s bs = N.run (N.run s (bs.take k)) (bs.drop k) := by
  rw [← NZ.run_app, List.take_append_drop]
/-- where the cell for a byte lies -/
theorem nz_cell {w : World} {N : NZ} {pc pr pe : Option Addr} {kc kr ke : Nat} (hv : NzAt w (.agg #[.slice pc N.cls.length kc, .slice pr N.rows.length kr, .slice pe N.ends.length ke]) N) (hval : N.valid = true) (k : Nat) (hk : k < N.rows.length) (b : UInt8) :
    ∃ (rb ro ub uo n ku i : Nat), pr = some ⟨rb, ro, none⟩ ∧ w.cell? ⟨rb, ro + k, none⟩ = some (.slice (some ⟨ub, uo, none⟩) n ku) ∧ rb < w.heap.size ∧ At oV w ub (uo + i * 3) (ceL (N.cell k b)) ∧ ub < w.heap.size ∧ i < n ∧ n ≤ ku ∧ idxC N.cls b = (i : Int) ∧ RdK 4 clL w (.slice pc N.cls.length kc) N.cls ∧ N.cls.length ≤ 256 := by
  have hcov := valid_cov hval
  obtain ⟨vc, vr, ve, he, h1, h2, h3⟩ := hv
  obtain ⟨rfl, rfl, rfl⟩ : .slice pc N.cls.length kc = vc ∧ .slice pr N.rows.length kr = vr ∧ .slice pe N.ends.length ke = ve := by
    have := congrArg (fun v => match v with | Value.agg a => a.toList | _ => []) he
    simpa using this
  obtain ⟨rb, ro, u, rfl, hu, hru, hcr, lrb⟩ := h2.elem k hk
  obtain ⟨pu, ku, rfl⟩ := hru.slice
  obtain ⟨i, hil, hi⟩ := hcov b
  have hrl := valid_row hval k hk
  obtain ⟨ub, uo, rfl, hce, hku, lub⟩ := hru.elem i (by omega)
  have hcell : N.cell k b = N.rows[k][i]'(by omega) := by
    unfold NZ.cell
    rw [hi, List.getElem?_eq_getElem hk]
    show (N.rows[k][(i : Int).toNat]?).getD _ = _
    rw [show (i : Int).toNat = i by simp, List.getElem?_eq_getElem (by omega)]
    rfl
  rw [← hcell] at hce
  exact ⟨rb, ro, ub, uo, _, ku, i, rfl, hu, lrb, hce, lub, by omega, hku, hi, h1, ((valid_iff N).1 hval).1.1⟩

set_option maxHeartbeats 32000000 in
theorem rFeed (w : World) (N : NZ) (pc pr pe pu : Option Addr) (kc kr ke ku : Nat) (at_ : Int) (r : Bool) (bs : List UInt8) (hv : NzAt w (.agg #[.slice pc N.cls.length kc, .slice pr N.rows.length kr, .slice pe N.ends.length ke]) N) (hu : Rd u8V w (.slice pu bs.length ku) bs) (hbs : bs.length ≤ 140737488351232) :
    Calls Tryz.prog 12 #[.agg #[.slice pc N.cls.length kc, .slice pr N.rows.length kr, .slice pe N.ends.length ke], .agg #[.int .i64 at_, .bool r], .slice pu bs.length ku] w fun e w' => Below w.heap.size w w' ∧
      ((N.okAt at_ = false ∧ e = .returned (.tuple #[.agg #[.int .i64 0, .bool false], .slice none 0 0])) ∨
       (N.okAt at_ = true ∧ ∃ s, Hid (s = N.run ⟨at0 r at_, r, []⟩ bs) ∧ ∃ po ko, e = .returned (.tuple #[.agg #[.int .i64 s.pos, .bool s.ref], .slice po s.out.length ko]) ∧ Mem.Own u8V w' w.heap.size 5 (.slice po s.out.length ko) s.out)) := by
  have HV := Lib.hid hv
  have HU := Lib.hid hu
  clear hv hu
  go_enter Tryz.func12, Tryz.ntmps12
  go_upto_region 1 with (fail)
  obtain ⟨W, hW, hB, hs, g0, g1, g2⟩ : ∃ W, (((w.alloc (.cells #[.slice pc N.cls.length kc, .slice pr N.rows.length kr, .slice pe N.ends.length ke] 26)).alloc (.cells #[.int .i64 at_, .bool r] 28)).alloc (.cells #[.int .i64 0, .bool false] 28)) = W ∧ Below w.heap.size w W ∧ w.heap.size + 3 ≤ W.heap.size ∧ W.heap[w.heap.size]? = some (.cells #[.slice pc N.cls.length kc, .slice pr N.rows.length kr, .slice pe N.ends.length ke] 26 (0, 0)) ∧ W.heap[w.heap.size + 1]? = some (.cells #[.int .i64 at_, .bool r] 28 (0, 0)) ∧ W.heap[w.heap.size + 1 + 1]? = some (.cells #[.int .i64 0, .bool false] 28 (0, 0)) := by
    refine ⟨_, rfl, below_al (below_al (below_al (Below.refl _ _) (Nat.le_refl _) _) (Nat.le_refl _) _) (Nat.le_refl _) _, by simp, ?_, ?_, ?_⟩
    all_goals repeat (first | (refine heap_new' _ _ _ ?_; (simp; done)) | (refine (Below.heap_alloc _ _ _ ?_).trans ?_; · (simp <;> omega)))
  rw [hW]
  clear hW
  have HC : Hid (∀ X, Below W.heap.size W X → X.cell? ⟨w.heap.size, 0, none⟩ = some (.slice pc N.cls.length kc) ∧ X.cell? ⟨w.heap.size, 1, none⟩ = some (.slice pr N.rows.length kr) ∧ X.cell? ⟨w.heap.size, 2, none⟩ = some (.slice pe N.ends.length ke) ∧ X.cell? ⟨w.heap.size + 1, 0, none⟩ = some (.int .i64 at_) ∧ X.cell? ⟨w.heap.size + 1, 1, none⟩ = some (.bool r) ∧ Row oV X (w.heap.size + 1 + 1) 28 [oi 0, ob false]) := Lib.hid fun X hX => by
    have h0 := (hX.block w.heap.size (by omega)).trans g0
    have h1 := (hX.block (w.heap.size + 1) (by omega)).trans g1
    refine ⟨?_, ?_, ?_, ?_, ?_, (hX.block (w.heap.size + 1 + 1) (by omega)).trans g2⟩ <;> (unfold World.cell?; first | (rw [h0]; rfl) | (rw [h1]; rfl))
  clear g0 g1 g2
  obtain ⟨c0, c1, c2, s0, s1, _⟩ := HC.out W (Below.refl _ _)
  go_wp2_with fail
  refine (rState W N pc pr pe kc kr ke at_ r (HV.out.below hB)).mono ?_
  rintro e W1 ⟨rfl, hB1⟩
  have hBw := hB.trans (hB1.mono hB.size)
  clear c0 c1 c2 s0 s1
  obtain ⟨c0, c1, c2, s0, s1, rz1⟩ := HC.out W1 hB1
  cases hok : N.okAt at_ with
  | false =>
    have HNO := Lib.hid hok
    clear hok c0 c1 c2 s0 s1
    go_wp2_with (first
      | ((with_reducible refine store_agg (f := oV) (l := [oi 0, ob false]) (l' := [oi 0, ob false]) (t := 28) (C := #[.int .i64 0, .bool false]) aggNS (.tmp 6) (.tmp 17) ?_ ?_ (w.heap.size + 1 + 1) ?_ ?_ ?_ rz1 ?_ oV_one ?_); rfl; rfl; rfl; rfl; rfl; rfl; (intro W2 hs2 hG2 hz2)))
    refine bodyPost_ret (v := .tuple #[.agg #[.int .i64 0, .bool false], .slice none 0 0]) (results_agg2 (f := oV) (l := [oi 0, ob false]) (t := 7) rfl _ aggNS (w.heap.size + 1 + 1) 0 rfl hs2.at) rfl ?_
    exact ⟨hBw.grown hG2 hBw.size (fun k e => by cases e; omega), .inl ⟨HNO.out, rfl⟩⟩
  | true =>
    have hval : N.valid = true := by unfold NZ.okAt at hok; rw [Bool.and_eq_true] at hok; exact hok.1
    have hat : 0 ≤ at_ ∧ at_ < (N.rows.length : Int) := by unfold NZ.okAt at hok; rw [Bool.and_eq_true] at hok; exact of_decide_eq_true hok.2
    have HOK := Lib.hid (And.intro hval (And.intro hok hat))
    have h00 : Hid (0 ≤ at0 r at_ ∧ at0 r at_ < (N.rows.length : Int)) := Lib.hid (by unfold at0; split <;> omega)
    have hO0 : Hid (Mem.Own u8V (W1.alloc (.cells #[] 5)) W.heap.size 5 (.slice (some ⟨W1.heap.size, 0, none⟩) 0 0) ([] : List UInt8)) := Lib.hid (Own.new W1 _ W.heap.size hB1.size rfl (by simp))
    have hX0 : Hid (Below W.heap.size W (W1.alloc (.cells #[] 5))) := Lib.hid (hB1.alloc hB1.size _)
    obtain ⟨a0, a1, a2, t0, t1, _⟩ := HC.out _ hX0.out
    have HU1 : Hid (Rd u8V W (.slice pu bs.length ku) bs) := Lib.hid (HU.out.below hB)
    have HV1 := Lib.hid (HV.out.below hB)
    replace hB := Lib.hid hB
    clear hok hval hat rz1 hBw
    go_upto_region 7 with (fail)
    clear a0 a1 a2 t0 t1 c0 c1 c2 s0 s1
    generalize (W1.alloc (.cells #[] 5)) = W2 at *
    generalize W1.heap.size = n1 at *
    clear hB1
    go_loopw [8, 9, 10, 11] (fun s8 s9 s10 s11 wr => ∃ (k : Nat) (s : St) (a : Int) (po : Option Addr) (ko : Nat), k ≤ bs.length ∧ s11 = .int .i64 k ∧ s10 = .bool s.ref ∧ s9 = .int .i64 a ∧ s8 = .slice po s.out.length ko ∧ Hid (s = N.run ⟨at0 r at_, r, []⟩ (bs.take k)) ∧ Hid (s.ref = false → a = s.pos) ∧ Hid (0 ≤ s.pos ∧ s.pos < (N.rows.length : Int)) ∧ Hid (Mem.Own u8V wr W.heap.size 5 (.slice po s.out.length ko) s.out) ∧ Below W.heap.size W wr) (fun _ _ _ i _ => bs.length - (intOf i).toNat)
    case atStart => exact ⟨0, ⟨at0 r at_, r, []⟩, at_, _, 0, by omega, rfl, rfl, rfl, rfl, Lib.hid rfl, Lib.hid (fun h => by show at_ = at0 r at_; have h2 : r = false := h; rw [h2]; rfl), h00, hO0, hX0.out⟩
    case round =>
      clear hO0 hX0 h00
      obtain ⟨k, s, a, po, ko, hk, rfl, rfl, rfl, rfl, HR, HA, HP, HO, hX⟩ := hrel
      have hol : s.out.length ≤ bs.length := by
        have h := N.out_le (bs.take k) ⟨at0 r at_, r, []⟩
        rw [← HR.out, List.length_take] at h
        simp at h
        omega
      by_cases hlt : k < bs.length
      · have hq : (k : Int) < (bs.length : Int) := by omega
        cases hrf : s.ref with
        | true =>
          have hfin : Hid (s = N.run ⟨at0 r at_, r, []⟩ bs) := Lib.hid (by rw [NZ.run_at N ⟨at0 r at_, r, []⟩ bs k, ← HR.out]; exact (NZ.run_stop N _ s hrf).symm)
          obtain ⟨_, _, _, _, _, rz⟩ := HC.out _ hX
          have hp0 : s.pos = 0 := by
            have h := NZ.run_inv N bs ⟨at0 r at_, r, []⟩ (fun h => by have h2 : r = true := h; show at0 r at_ = 0; rw [h2]; rfl)
            rw [← hfin.out] at h
            exact h hrf
          have hsv : Hid (Value.agg #[.int .i64 0, .bool true] = .agg #[.int .i64 s.pos, .bool s.ref]) := Lib.hid (by rw [hrf, hp0])
          clear hrf hp0 HR HA HP
          go_wp2_with (first
            | ((with_reducible refine store_agg (f := oV) (l := [oi 0, ob false]) (l' := [oi 0, ob true]) (t := 28) (C := #[.int .i64 0, .bool true]) aggNS (.tmp 6) (.tmp 70) ?_ ?_ (w.heap.size + 1 + 1) ?_ ?_ ?_ rz ?_ oV_one ?_); rfl; rfl; rfl; rfl; rfl; rfl; (intro W9 hs9 hG9 hz9)))
          refine bodyPost_ret (v := .tuple #[.agg #[.int .i64 0, .bool true], .slice po s.out.length ko]) (results_agg2 (f := oV) (l := [oi 0, ob true]) (t := 7) rfl _ aggNS (w.heap.size + 1 + 1) 0 rfl hs9.at) rfl ?_
          have hBx := hB.out.trans (hX.mono hB.out.size)
          exact ⟨hBx.grown hG9 hBx.size (fun k e => by cases e; omega), .inr ⟨HOK.out.2.1, s, hfin, po, ko, by rw [hsv.out], (HO.out.grown' hG9 (fun g hg e => by injection e with e; have h1 := (HO.out.lt g hg).1; omega)).mono hB.out.size⟩⟩
        | false =>
          obtain rfl : a = s.pos := HA.out hrf
          obtain ⟨p, hp⟩ : ∃ p : Nat, s.pos = (p : Int) := ⟨s.pos.toNat, by have := HP.out; omega⟩
          have hpl : p < N.rows.length := by have := HP.out; omega
          have hpq : (p : Int) < (N.rows.length : Int) := by omega
          have hst : N.step s (bs[k]'hlt) = ⟨(N.cell p (bs[k]'hlt)).next, (N.cell p (bs[k]'hlt)).refuses, s.out ++ (N.cell p (bs[k]'hlt)).out (bs[k]'hlt)⟩ := by
            unfold NZ.step
            rw [if_neg (by rw [hrf]; decide), hp]
            rfl
          have hstp : Hid (0 ≤ (N.step s (bs[k]'hlt)).pos ∧ (N.step s (bs[k]'hlt)).pos < (N.rows.length : Int)) := Lib.hid (step_pos HOK.out.1 (valid_cov HOK.out.1) s HP.out _)
          have HRN : Hid (N.step s (bs[k]'hlt) = N.run ⟨at0 r at_, r, []⟩ (bs.take (k + 1))) := Lib.hid (by rw [run_succ N _ bs k hlt, ← HR.out])
          rw [hst] at hstp HRN
          rw [hp]
          obtain ⟨rb, ro, ub, uo, n, kn, i, rfl, hu1, lrb, hce, lub, hin, hnk, hidx, hcls, hcl⟩ := nz_cell (HV1.out.below hX) HOK.out.1 p hpl (bs[k]'hlt)
          obtain ⟨bu, ou, rfl, hby⟩ : ∃ b o, pu = some ⟨b, o, none⟩ ∧ ∀ X, Below W.heap.size W X → X.cell? ⟨b, o + k, none⟩ = some (.int .u8 ((bs[k]'hlt).toNat : Int)) := by
            rcases HU1.out with ⟨_, _, h0⟩ | ⟨b, o, cap, h1, _, ha, hl⟩
            · rw [h0] at hlt; simp at hlt
            · cases h1
              exact ⟨b, o, rfl, fun X hX => ((hX.cell (p := ⟨b, o + k, none⟩) hl).trans (ha k hlt)).trans (by rw [List.getElem?_eq_getElem hlt]; rfl)⟩
          generalize N.cell p (bs[k]'hlt) = c at *
          generalize bs[k]'hlt = b at *
          have HS : Hid (∀ X, Below wr.heap.size wr X → X.cell? ⟨w.heap.size, 1, none⟩ = some (.slice (some ⟨rb, ro, none⟩) N.rows.length kr) ∧ X.cell? ⟨w.heap.size, 0, none⟩ = some (.slice pc N.cls.length kc) ∧ X.cell? ⟨rb, ro + p, none⟩ = some (.slice (some ⟨ub, uo, none⟩) n kn) ∧ X.cell? ⟨bu, ou + k, none⟩ = some (.int .u8 (b.toNat : Int)) ∧ At oV X ub (uo + i * 3) (ceL c) ∧ RdK 4 clL X (.slice pc N.cls.length kc) N.cls) := Lib.hid fun X hY => by
            have h1 := HC.out X (hX.trans (hY.mono hX.size))
            exact ⟨h1.2.1, h1.1, (hY.cell (p := ⟨rb, ro + p, none⟩) lrb).trans hu1, hby X (hX.trans (hY.mono hX.size)), hce.below hY lub, hcls.below hY⟩
          have hqi : (i : Int) < (n : Int) := by omega
          replace hidx := Lib.hid hidx
          replace hby := Lib.hid hby
          replace hst := Lib.hid hst
          clear hu1 hce hcls hp HP HA HR
          go_upto_region 9 with (fail)
          go_cut [12] (fun s12 wx => ∃ n4 : Nat, s12 = .pointer (some ⟨n4, 0, none⟩) ∧ Row oV wx n4 75 (ceL c) ∧ Below wr.heap.size wr wx ∧ wr.heap.size ≤ n4)
          · refine region_headsT (S := fun X => Below wr.heap.size wr X) 15 rfl (by kernel_rfl) (Below.refl _ _).drew fun hS => ?_
            refine headsT_takeD (i := 0) (d := 33) (v := .pointer (some ⟨w.heap.size, 1, none⟩)) (by kernel_rfl) rfl rfl (by omega) (by kernel_rfl) (by kernel_rfl) (fun c a w h => h) (yieldsIf_op rfl (fun w => by first | rfl | kernel_rfl | (go_simp; done))) hS ?_
            simp only [List.setIfInBounds_toArray, List.set_cons_succ, List.set_cons_zero]
            refine headsT_takeD (i := 1) (d := 34) (v := .slice (some ⟨rb, ro, none⟩) N.rows.length kr) (by kernel_rfl) rfl rfl (by omega) (by kernel_rfl) (by kernel_rfl) (fun c a w h => h) (.inl ⟨by first | rfl | kernel_rfl, fun W' h => by obtain ⟨q0, q1, q2, q3, _⟩ := HS.out W' h; go_simp⟩) hS ?_
            simp only [List.setIfInBounds_toArray, List.set_cons_succ, List.set_cons_zero]
            refine headsT_takeD (i := 2) (d := 35) (v := .int .i64 p) (by kernel_rfl) rfl rfl (by omega) (by kernel_rfl) (by kernel_rfl) (fun c a w h => h) (yieldsIf_op rfl (fun w => by first | rfl | kernel_rfl | (go_simp; done))) hS ?_
            simp only [List.setIfInBounds_toArray, List.set_cons_succ, List.set_cons_zero]
            refine headsT_takeD (i := 3) (d := 36) (v := .pointer (some ⟨rb, ro + p, none⟩)) (by kernel_rfl) rfl rfl (by omega) (by kernel_rfl) (by kernel_rfl) (fun c a w h => h) (yieldsIf_op rfl (fun w => by go_simp)) hS ?_
            simp only [List.setIfInBounds_toArray, List.set_cons_succ, List.set_cons_zero]
            refine headsT_takeD (i := 4) (d := 37) (v := .slice (some ⟨ub, uo, none⟩) n kn) (by kernel_rfl) rfl rfl (by omega) (by kernel_rfl) (by kernel_rfl) (fun c a w h => h) (.inl ⟨by first | rfl | kernel_rfl, fun W' h => by obtain ⟨q0, q1, q2, q3, _⟩ := HS.out W' h; go_simp⟩) hS ?_
            simp only [List.setIfInBounds_toArray, List.set_cons_succ, List.set_cons_zero]
            refine headsT_takeD (i := 5) (d := 38) (v := .pointer (some ⟨w.heap.size, 0, none⟩)) (by kernel_rfl) rfl rfl (by omega) (by kernel_rfl) (by kernel_rfl) (fun c a w h => h) (yieldsIf_op rfl (fun w => by first | rfl | kernel_rfl | (go_simp; done))) hS ?_
            simp only [List.setIfInBounds_toArray, List.set_cons_succ, List.set_cons_zero]
            refine headsT_takeD (i := 6) (d := 39) (v := .slice pc N.cls.length kc) (by kernel_rfl) rfl rfl (by omega) (by kernel_rfl) (by kernel_rfl) (fun c a w h => h) (.inl ⟨by first | rfl | kernel_rfl, fun W' h => by obtain ⟨q0, q1, q2, q3, _⟩ := HS.out W' h; go_simp⟩) hS ?_
            simp only [List.setIfInBounds_toArray, List.set_cons_succ, List.set_cons_zero]
            refine headsT_takeD (i := 7) (d := 40) (v := .slice (some ⟨bu, ou, none⟩) bs.length ku) (by kernel_rfl) rfl rfl (by omega) (by kernel_rfl) (by kernel_rfl) (fun c a w h => h) (yieldsIf_op rfl (fun w => by first | rfl | kernel_rfl | (go_simp; done))) hS ?_
            simp only [List.setIfInBounds_toArray, List.set_cons_succ, List.set_cons_zero]
            refine headsT_takeD (i := 8) (d := 41) (v := .int .i64 k) (by kernel_rfl) rfl rfl (by omega) (by kernel_rfl) (by kernel_rfl) (fun c a w h => h) (yieldsIf_op rfl (fun w => by first | rfl | kernel_rfl | (go_simp; done))) hS ?_
            simp only [List.setIfInBounds_toArray, List.set_cons_succ, List.set_cons_zero]
            refine headsT_takeD (i := 9) (d := 42) (v := .pointer (some ⟨bu, ou + k, none⟩)) (by kernel_rfl) rfl rfl (by omega) (by kernel_rfl) (by kernel_rfl) (fun c a w h => h) (yieldsIf_op rfl (fun w => by go_simp)) hS ?_
            simp only [List.setIfInBounds_toArray, List.set_cons_succ, List.set_cons_zero]
            refine headsT_takeD (i := 10) (d := 43) (v := .int .u8 (b.toNat : Int)) (by kernel_rfl) rfl rfl (by omega) (by kernel_rfl) (by kernel_rfl) (fun c a w h => h) (.inl ⟨by first | rfl | kernel_rfl, fun W' h => by obtain ⟨q0, q1, q2, q3, _⟩ := HS.out W' h; go_simp⟩) hS ?_
            simp only [List.setIfInBounds_toArray, List.set_cons_succ, List.set_cons_zero]
            refine headsT_ready (rs := [11, 14]) (by kernel_rfl) (by simp) (AllReadyT.cons (by omega) rfl (fun K' hK => ?_) (AllReadyT.cons (by omega) rfl (fun K' hK => ?_) AllReadyT.nil))
            · refine callD (d := 44) (g := 33) (args := #[.slice pc N.cls.length kc, .int .u8 (b.toNat : Int)]) rfl rfl (by first | kernel_rfl | (simp [execOp, resolve, invoke, Act.eval]) | go_simp) ?_
              refine (rIndex _ _ N.cls b (HS.out _ hS).2.2.2.2.2 (by omega)).mono ?_
              rintro e Wb ⟨rfl, hBb⟩
              replace hS := hS.trans (hBb.mono hS.size)
              refine ⟨_, rfl, hK.out _ _ hS fun _ => ?_⟩
              clear hK hBb
              simp only [List.setIfInBounds_toArray, List.set_cons_succ, List.set_cons_zero]
              rw [hidx.out]
              refine headsT_takeD (i := 12) (d := 45) (v := .pointer (some ⟨ub, uo + i * 3, none⟩)) (by kernel_rfl) rfl rfl (by omega) (by kernel_rfl) (by kernel_rfl) (fun c a w h => h) (yieldsIf_op rfl (fun w => by go_simp)) hS ?_
              simp only [List.setIfInBounds_toArray, List.set_cons_succ, List.set_cons_zero]
              refine headsT_takeD (i := 13) (d := 46) (v := .agg (ceA c)) (by kernel_rfl) rfl rfl (by omega) (by kernel_rfl) (by kernel_rfl) (fun c a w h => h) (yieldsIf_load (f := oV) (l := ceL c) aggCe (.tmp 45) rfl ub (uo + i * 3) rfl (fun W' h => (HS.out W' h).2.2.2.2.1) rfl rfl) hS ?_
              simp only [List.setIfInBounds_toArray, List.set_cons_succ, List.set_cons_zero]
              refine headsT_ready (rs := [14]) (by kernel_rfl) (by simp) (AllReadyT.cons (by omega) rfl (fun K' hK => ?_) AllReadyT.nil)
              have hZ : Row oV (Wb.alloc (.cells #[.int .i64 0, .int .i64 0, .int .u8 0] 75)) Wb.heap.size 75 [oi 0, oi 0, ⟨.int .u8 0, rfl⟩] := Row.new _ _ rfl
              have hn4 : wr.heap.size ≤ Wb.heap.size := hS.size
              replace hS := hS.alloc hS.size (.cells #[.int .i64 0, .int .i64 0, .int .u8 0] 75)
              refine allocD (d := 12) (ob := .cells #[.int .i64 0, .int .i64 0, .int .u8 0] 75) rfl rfl (by first | rfl | kernel_rfl) ?_
              refine hK.out _ _ hS fun _ => ?_
              clear hK
              simp only [List.setIfInBounds_toArray, List.set_cons_succ, List.set_cons_zero]
              generalize (Wb.alloc (.cells #[.int .i64 0, .int .i64 0, .int .u8 0] 75)) = Wz at hS hZ ⊢
              generalize Wb.heap.size = n4 at hZ hn4 ⊢
              refine headsT_tail (by kernel_rfl) ?_
              simp only [List.drop]
              go_wp2_with (first
                | ((with_reducible refine store_agg (f := oV) (l := [oi 0, oi 0, ⟨.int .u8 0, rfl⟩]) (l' := ceL c) (t := 75) (C := ceA c) aggCe (.tmp 12) (.tmp 46) ?_ ?_ n4 ?_ ?_ ?_ hZ ?_ oV_one ?_); rfl; rfl; rfl; rfl; rfl; rfl; (intro We hse hGe hze)))
              go_meet
              exact ⟨n4, rfl, hse, hS.grown hGe hS.size (fun k e => by cases e; exact hn4), hn4⟩
            · generalize wr.drew = Wd at hS ⊢
              have hZ : Row oV (Wd.alloc (.cells #[.int .i64 0, .int .i64 0, .int .u8 0] 75)) Wd.heap.size 75 [oi 0, oi 0, ⟨.int .u8 0, rfl⟩] := Row.new _ _ rfl
              have hn4 : wr.heap.size ≤ Wd.heap.size := hS.size
              replace hS := hS.alloc hS.size (.cells #[.int .i64 0, .int .i64 0, .int .u8 0] 75)
              refine allocD (d := 12) (ob := .cells #[.int .i64 0, .int .i64 0, .int .u8 0] 75) rfl rfl (by first | rfl | kernel_rfl) ?_
              refine hK.out _ _ hS fun _ => ?_
              clear hK
              simp only [List.setIfInBounds_toArray, List.set_cons_succ, List.set_cons_zero]
              generalize (Wd.alloc (.cells #[.int .i64 0, .int .i64 0, .int .u8 0] 75)) = Wz at hS hZ ⊢
              generalize Wd.heap.size = n4 at hZ hn4 ⊢
              refine headsT_ready (rs := [11]) (by kernel_rfl) (by simp) (AllReadyT.cons (by omega) rfl (fun K' hK => ?_) AllReadyT.nil)
              refine callD (d := 44) (g := 33) (args := #[.slice pc N.cls.length kc, .int .u8 (b.toNat : Int)]) rfl rfl (by first | kernel_rfl | (simp [execOp, resolve, invoke, Act.eval]) | go_simp) ?_
              refine (rIndex _ _ N.cls b (HS.out _ hS).2.2.2.2.2 (by omega)).mono ?_
              rintro e Wb ⟨rfl, hBb⟩
              replace hS := hS.trans (hBb.mono hS.size)
              replace hZ := hZ.below hBb hZ.lt
              refine ⟨_, rfl, hK.out _ _ hS fun _ => ?_⟩
              clear hK hBb
              simp only [List.setIfInBounds_toArray, List.set_cons_succ, List.set_cons_zero]
              rw [hidx.out]
              refine headsT_takeD (i := 12) (d := 45) (v := .pointer (some ⟨ub, uo + i * 3, none⟩)) (by kernel_rfl) rfl rfl (by omega) (by kernel_rfl) (by kernel_rfl) (fun c a w h => h) (yieldsIf_op rfl (fun w => by go_simp)) hS ?_
              simp only [List.setIfInBounds_toArray, List.set_cons_succ, List.set_cons_zero]
              refine headsT_takeD (i := 13) (d := 46) (v := .agg (ceA c)) (by kernel_rfl) rfl rfl (by omega) (by kernel_rfl) (by kernel_rfl) (fun c a w h => h) (yieldsIf_load (f := oV) (l := ceL c) aggCe (.tmp 45) rfl ub (uo + i * 3) rfl (fun W' h => (HS.out W' h).2.2.2.2.1) rfl rfl) hS ?_
              simp only [List.setIfInBounds_toArray, List.set_cons_succ, List.set_cons_zero]
              refine headsT_tail (by kernel_rfl) ?_
              simp only [List.drop]
              go_wp2_with (first
                | ((with_reducible refine store_agg (f := oV) (l := [oi 0, oi 0, ⟨.int .u8 0, rfl⟩]) (l' := ceL c) (t := 75) (C := ceA c) aggCe (.tmp 12) (.tmp 46) ?_ ?_ n4 ?_ ?_ ?_ hZ ?_ oV_one ?_); rfl; rfl; rfl; rfl; rfl; rfl; (intro We hse hGe hze)))
              go_meet
              exact ⟨n4, rfl, hse, hS.grown hGe hS.size (fun k e => by cases e; exact hn4), hn4⟩
          obtain ⟨n4, rfl, hce, hY, hn4⟩ := hcut
          obtain ⟨Z, hz0⟩ : ∃ Z, Z = wc := ⟨_, rfl⟩
          subst hz0
          have HO2 := Lib.hid (HO.out.below' hY)
          have hlo : ∀ g, (Value.slice po s.out.length ko).ownBlock = some g → g < n4 := fun g hg => Nat.lt_of_lt_of_le (HO.out.lt g hg).2 hn4
          have hX2 := hX.trans (hY.mono hX.size)
          have hXs := hX2.size
          have ct : Z.cell? ⟨n4, 0, none⟩ = some (.int .i64 c.tgt) := by rw [hce.cell?]; rfl
          have ca : Z.cell? ⟨n4, 1, none⟩ = some (.int .i64 c.act) := by rw [hce.cell?]; rfl
          have cb : Z.cell? ⟨n4, 2, none⟩ = some (.int .u8 (c.b.toNat : Int)) := by rw [hce.cell?]; rfl
          have cy := hby.out Z hX2
          replace hce := Lib.hid hce
          clear hX hY HO HS
          by_cases a0 : c.act = 0
          · have hnx : c.next = c.tgt := by unfold Ce.next; rw [if_neg (by omega)]
            have hrf2 : c.refuses = false := decide_eq_false (by omega)
            have hout : c.out b = [b] := by unfold Ce.out; rw [if_pos a0]
            rw [hnx, hrf2, hout] at hstp HRN
            clear hnx hrf2 hout
            go_upto_region 17 with (at_builtin; (with_reducible refine append_one elt8 (.tmp 51) (.tmp 56) ?_ ?_ u8V_one ?_ HO2.out b _ ?_ _ ?_ ?_ ?_ ?_ (s.out ++ [b]) ?_ ?_); rfl; rfl; rfl; rfl; rfl; (omega); (omega); (exact hXs); rfl; (intro p3 c3 W3 hO3 hB3 hG3))
            have hlen : (s.out ++ [b]).length = s.out.length + 1 := by simp
            have hce3 := ((hce.out.alloc (.cells #[.int .u8 (b.toNat : Int)] 5)).grown hG3 (fun e => by have := hlo n4 e.symm; omega))
            have ct3 : W3.cell? ⟨n4, 0, none⟩ = some (.int .i64 c.tgt) := by rw [hce3.cell?]; rfl
            replace hlen := Lib.hid hlen
            clear ct ca cb cy a0 hce hce3 hG3 HO2 hlo
            go_wp2_with fail
            go_roundw
            case rel => exact ⟨k + 1, ⟨c.tgt, false, s.out ++ [b]⟩, c.tgt, p3, c3, by omega, by go_num, rfl, rfl, by first | rfl | (rw [hlen.out]), HRN, Lib.hid (fun _ => rfl), hstp, Lib.hid hO3, hX2.trans hB3⟩
            case measure => simp [intOf] <;> omega
          have a0' : (c.act == 0) = false := by simpa using a0
          by_cases a2 : c.act = 2
          · have hnx : c.next = c.tgt := by unfold Ce.next; rw [if_neg (by omega)]
            have hrf2 : c.refuses = false := decide_eq_false (by omega)
            have hout : c.out b = [c.b] := by unfold Ce.out; rw [if_neg a0, if_pos a2]
            rw [hnx, hrf2, hout] at hstp HRN
            clear hnx hrf2 hout
            go_upto_region 17 with (at_builtin; (with_reducible refine append_one elt8 (.tmp 60) (.tmp 63) ?_ ?_ u8V_one ?_ HO2.out c.b _ ?_ _ ?_ ?_ ?_ ?_ (s.out ++ [c.b]) ?_ ?_); rfl; rfl; rfl; rfl; rfl; (omega); (omega); (exact hXs); rfl; (intro p3 c3 W3 hO3 hB3 hG3))
            have hlen : (s.out ++ [c.b]).length = s.out.length + 1 := by simp
            have hce3 := ((hce.out.alloc (.cells #[.int .u8 (c.b.toNat : Int)] 5)).grown hG3 (fun e => by have := hlo n4 e.symm; omega))
            have ct3 : W3.cell? ⟨n4, 0, none⟩ = some (.int .i64 c.tgt) := by rw [hce3.cell?]; rfl
            replace hlen := Lib.hid hlen
            clear ct ca cb cy a0 a0' a2 hce hce3 hG3 HO2 hlo
            go_wp2_with fail
            go_roundw
            case rel => exact ⟨k + 1, ⟨c.tgt, false, s.out ++ [c.b]⟩, c.tgt, p3, c3, by omega, by go_num, rfl, rfl, by first | rfl | (rw [hlen.out]), HRN, Lib.hid (fun _ => rfl), hstp, Lib.hid hO3, hX2.trans hB3⟩
            case measure => simp [intOf] <;> omega
          have a2' : (c.act == 2) = false := by simpa using a2
          have hout : c.out b = [] := by unfold Ce.out; rw [if_neg a0, if_neg a2]
          rw [hout, List.append_nil] at hstp HRN
          by_cases a3 : c.act = 3
          · have hrf2 : c.refuses = true := decide_eq_true a3
            rw [hrf2] at hstp HRN
            clear hrf2 hout a0 a2
            go_wp2_with fail
            go_roundw
            case rel => exact ⟨k + 1, ⟨c.next, true, s.out⟩, c.tgt, po, ko, by omega, by go_num, rfl, rfl, rfl, HRN, Lib.hid (fun h => by cases h), hstp, HO2, hX2⟩
            case measure => simp [intOf] <;> omega
          · have a3' : (c.act == 3) = false := by simpa using a3
            have hnx : c.next = c.tgt := by unfold Ce.next; rw [if_neg a3]
            have hrf2 : c.refuses = false := decide_eq_false a3
            rw [hnx, hrf2] at hstp HRN
            clear hrf2 hout a0 a2 a3 hnx
            go_wp2_with fail
            go_roundw
            case rel => exact ⟨k + 1, ⟨c.tgt, false, s.out⟩, c.tgt, po, ko, by omega, by go_num, rfl, rfl, rfl, HRN, Lib.hid (fun _ => rfl), hstp, HO2, hX2⟩
            case measure => simp [intOf] <;> omega
      · have hke : k = bs.length := by omega
        have hq : ¬ (k : Int) < (bs.length : Int) := by omega
        have hfin : Hid (s = N.run ⟨at0 r at_, r, []⟩ bs) := Lib.hid (by rw [HR.out, List.take_of_length_le (by omega)])
        clear hke
        cases hrf : s.ref with
        | true =>
          obtain ⟨_, _, _, _, _, rz⟩ := HC.out _ hX
          have hp0 : s.pos = 0 := by
            have h := NZ.run_inv N bs ⟨at0 r at_, r, []⟩ (fun h => by have h2 : r = true := h; show at0 r at_ = 0; rw [h2]; rfl)
            rw [← hfin.out] at h
            exact h hrf
          have hsv : Hid (Value.agg #[.int .i64 0, .bool true] = .agg #[.int .i64 s.pos, .bool s.ref]) := Lib.hid (by rw [hrf, hp0])
          clear hrf hp0 HR HA HP
          go_wp2_with (first
            | ((with_reducible refine store_agg (f := oV) (l := [oi 0, ob false]) (l' := [oi 0, ob true]) (t := 28) (C := #[.int .i64 0, .bool true]) aggNS (.tmp 6) (.tmp 70) ?_ ?_ (w.heap.size + 1 + 1) ?_ ?_ ?_ rz ?_ oV_one ?_); rfl; rfl; rfl; rfl; rfl; rfl; (intro W9 hs9 hG9 hz9)))
          refine bodyPost_ret (v := .tuple #[.agg #[.int .i64 0, .bool true], .slice po s.out.length ko]) (results_agg2 (f := oV) (l := [oi 0, ob true]) (t := 7) rfl _ aggNS (w.heap.size + 1 + 1) 0 rfl hs9.at) rfl ?_
          have hBx := hB.out.trans (hX.mono hB.out.size)
          exact ⟨hBx.grown hG9 hBx.size (fun k e => by cases e; omega), .inr ⟨HOK.out.2.1, s, hfin, po, ko, by rw [hsv.out], (HO.out.grown' hG9 (fun g hg e => by injection e with e; have h1 := (HO.out.lt g hg).1; omega)).mono hB.out.size⟩⟩
        | false =>
          obtain rfl : a = s.pos := HA.out hrf
          obtain ⟨_, _, _, _, _, rz⟩ := HC.out _ hX
          have hsv : Hid (Value.agg #[.int .i64 s.pos, .bool false] = .agg #[.int .i64 s.pos, .bool s.ref]) := Lib.hid (by rw [hrf])
          clear hrf HR HA HP
          go_wp2_with (first
            | ((with_reducible refine store_agg (f := oV) (l := [oi 0, ob false]) (l' := [oi s.pos, ob false]) (t := 28) (C := #[.int .i64 s.pos, .bool false]) aggNS (.tmp 6) (.tmp 73) ?_ ?_ (w.heap.size + 1 + 1) ?_ ?_ ?_ rz ?_ oV_one ?_); rfl; rfl; rfl; rfl; rfl; rfl; (intro W9 hs9 hG9 hz9)))
          refine bodyPost_ret (v := .tuple #[.agg #[.int .i64 s.pos, .bool false], .slice po s.out.length ko]) (results_agg2 (f := oV) (l := [oi s.pos, ob false]) (t := 7) rfl _ aggNS (w.heap.size + 1 + 1) 0 rfl hs9.at) rfl ?_
          have hBx := hB.out.trans (hX.mono hB.out.size)
          exact ⟨hBx.grown hG9 hBx.size (fun k e => by cases e; omega), .inr ⟨HOK.out.2.1, s, hfin, po, ko, by rw [hsv.out], (HO.out.grown' hG9 (fun g hg e => by injection e with e; have h1 := (HO.out.lt g hg).1; omega)).mono hB.out.size⟩⟩
end Go.Proofs.YtgflelodpcgmbaaGreatDoor
/- univocalref25.Finish and Run. -/
namespace Go.Proofs.YtgflelodpcgmbaaGreatDoor
open Go Go.RowKit Mem
set_option maxRecDepth 100000

set_option maxHeartbeats 8000000 in
theorem rFinish (w : World) (N : NZ) (pc pr pe : Option Addr) (kc kr ke : Nat) (at_ : Int) (r : Bool) (hv : NzAt w (.agg #[.slice pc N.cls.length kc, .slice pr N.rows.length kr, .slice pe N.ends.length ke]) N) :
    Calls Tryz.prog 16 #[.agg #[.slice pc N.cls.length kc, .slice pr N.rows.length kr, .slice pe N.ends.length ke], .agg #[.int .i64 at_, .bool r]] w fun e w' => e = .returned (.bool (N.fin at_ r)) ∧ Below w.heap.size w w' := by
  have HV := Lib.hid hv
  have HE : Hid (Rd Value.bool w (.slice pe N.ends.length ke) N.ends) := Lib.hid (by
    obtain ⟨vc, vr, ve, he, h1, h2, h3⟩ := hv
    obtain ⟨rfl, rfl, rfl⟩ : .slice pc N.cls.length kc = vc ∧ .slice pr N.rows.length kr = vr ∧ .slice pe N.ends.length ke = ve := by
      have := congrArg (fun v => match v with | Value.agg a => a.toList | _ => []) he
      simpa using this
    exact h3)
  clear hv
  go_enter Tryz.func16, Tryz.ntmps16
  go_upto_region 1 with (fail)
  obtain ⟨W, hW, hB, hs, g0, g1⟩ : ∃ W, ((w.alloc (.cells #[.slice pc N.cls.length kc, .slice pr N.rows.length kr, .slice pe N.ends.length ke] 26)).alloc (.cells #[.int .i64 at_, .bool r] 28)) = W ∧ Below w.heap.size w W ∧ w.heap.size + 2 ≤ W.heap.size ∧ W.heap[w.heap.size]? = some (.cells #[.slice pc N.cls.length kc, .slice pr N.rows.length kr, .slice pe N.ends.length ke] 26 (0, 0)) ∧ W.heap[w.heap.size + 1]? = some (.cells #[.int .i64 at_, .bool r] 28 (0, 0)) := by
    refine ⟨_, rfl, below_al (below_al (Below.refl _ _) (Nat.le_refl _) _) (Nat.le_refl _) _, by simp, ?_, ?_⟩
    all_goals repeat (first | (refine heap_new' _ _ _ ?_; (simp; done)) | (refine (Below.heap_alloc _ _ _ ?_).trans ?_; · (simp <;> omega)))
  rw [hW]
  clear hW
  have HC : Hid (∀ X, Below W.heap.size W X → X.cell? ⟨w.heap.size, 0, none⟩ = some (.slice pc N.cls.length kc) ∧ X.cell? ⟨w.heap.size, 1, none⟩ = some (.slice pr N.rows.length kr) ∧ X.cell? ⟨w.heap.size, 2, none⟩ = some (.slice pe N.ends.length ke) ∧ X.cell? ⟨w.heap.size + 1, 0, none⟩ = some (.int .i64 at_) ∧ X.cell? ⟨w.heap.size + 1, 1, none⟩ = some (.bool r)) := Lib.hid fun X hX => by
    have h0 := (hX.block w.heap.size (by omega)).trans g0
    have h1 := (hX.block (w.heap.size + 1) (by omega)).trans g1
    refine ⟨?_, ?_, ?_, ?_, ?_⟩ <;> (unfold World.cell?; first | (rw [h0]; rfl) | (rw [h1]; rfl))
  clear g0 g1 hs
  obtain ⟨c0, c1, c2, s0, s1⟩ := HC.out W (Below.refl _ _)
  go_wp2_with fail
  refine (rState W N pc pr pe kc kr ke at_ r (HV.out.below hB)).mono ?_
  rintro e W1 ⟨rfl, hB1⟩
  have hBw := hB.trans (hB1.mono hB.size)
  have hE1 := (HE.out.below hB).below hB1
  clear c0 c1 c2 s0 s1
  obtain ⟨c0, c1, c2, s0, s1⟩ := HC.out W1 hB1
  cases hok : N.okAt at_ with
  | false =>
    have hf : Hid (N.fin at_ r = false) := Lib.hid (by unfold NZ.fin; rw [hok]; rfl)
    clear hok hE1
    go_wp2
    go_ret
    exact ⟨by first | (rw [hf.out]; rfl) | rw [hf.out], hBw⟩
  | true =>
    have hval : N.valid = true := by unfold NZ.okAt at hok; rw [Bool.and_eq_true] at hok; exact hok.1
    have hat : 0 ≤ at_ ∧ at_ < (N.rows.length : Int) := by unfold NZ.okAt at hok; rw [Bool.and_eq_true] at hok; exact of_decide_eq_true hok.2
    have hel : N.ends.length = N.rows.length := ((valid_iff N).1 hval).1.2.2.2
    obtain ⟨k, rfl⟩ : ∃ k : Nat, at_ = (k : Int) := ⟨at_.toNat, by omega⟩
    have hkl : k < N.ends.length := by omega
    obtain ⟨be, oe, rfl, hA⟩ : ∃ b o, pe = some ⟨b, o, none⟩ ∧ At Value.bool W1 b o N.ends := by
      rcases hE1 with ⟨_, _, h0⟩ | ⟨b, o, cap, h1, _, ha, _⟩
      · rw [h0] at hkl; simp at hkl
      · cases h1; exact ⟨b, o, rfl, ha⟩
    have ce : W1.cell? ⟨be, oe + k, none⟩ = some (.bool (N.ends[k]'hkl)) := by rw [hA k hkl, List.getElem?_eq_getElem hkl]; rfl
    have hf : Hid (N.fin (k : Int) r = (!r && (N.ends[k]'hkl))) := Lib.hid (by
      unfold NZ.fin
      rw [hok, Bool.true_and]
      show (!r && (N.ends[(k : Int).toNat]?).getD false) = _
      rw [show (k : Int).toNat = k by simp, List.getElem?_eq_getElem hkl]
      rfl)
    have hq : (k : Int) < (N.ends.length : Int) := by omega
    replace hel := Lib.hid hel
    generalize N.ends[k]'hkl = ek at *
    clear hok hval hat hA
    cases r with
    | true =>
      go_wp2
      go_ret
      exact ⟨by first | (rw [hf.out]; rfl) | rw [hf.out], hBw⟩
    | false =>
      go_wp2
      go_ret
      exact ⟨by first | (rw [hf.out]; rfl) | rw [hf.out] | (rw [hf.out]; simp), hBw⟩

set_option maxHeartbeats 8000000 in
theorem rRun (w : World) (N : NZ) (pc pr pe pu : Option Addr) (kc kr ke ku : Nat) (bs : List UInt8) (hv : NzAt w (.agg  #[.slice pc N.cls.length kc, .slice pr N.rows.length kr, .slice pe N.ends.length ke]) N) (hu : Rd u8V w (.slice pu bs.length ku) bs) (hbs : bs.length ≤ 140737488351232) :
    Calls Tryz.prog 10 #[.agg  #[.slice pc N.cls.length kc, .slice pr N.rows.length kr, .slice pe N.ends.length ke], .slice pu bs.length ku] w fun e w' => Below w.heap.size w w' ∧
      ((N.acc bs = false ∧ e = .returned (.tuple #[.slice none 0 0, .bool false])) ∨
       (N.acc bs = true ∧ ∃ l, Hid (l = (N.run ⟨0, false, []⟩ bs).out) ∧ ∃ po ko, e = .returned (.tuple #[.slice po l.length ko, .bool true]) ∧ Mem.Own u8V w' w.heap.size 5 (.slice po l.length ko) l)) := by
  have HV := Lib.hid hv
  have HU := Lib.hid hu
  clear hv hu
  go_enter Tryz.func10, Tryz.ntmps10
  go_upto_region 1 with (fail)
  obtain ⟨W, hW, hB, hs, g0⟩ : ∃ W, (w.alloc (.cells  #[.slice pc N.cls.length kc, .slice pr N.rows.length kr, .slice pe N.ends.length ke] 26)) = W ∧ Below w.heap.size w W ∧ w.heap.size + 1 ≤ W.heap.size ∧ W.heap[w.heap.size]? = some (.cells  #[.slice pc N.cls.length kc, .slice pr N.rows.length kr, .slice pe N.ends.length ke] 26 (0, 0)) :=
    ⟨_, rfl, below_al (Below.refl _ _) (Nat.le_refl _) _, by simp, World.alloc_heap_new _ _⟩
  rw [hW]
  clear hW
  have HC : Hid (∀ X, Below W.heap.size W X → X.cell? ⟨w.heap.size, 0, none⟩ = some (.slice pc N.cls.length kc) ∧ X.cell? ⟨w.heap.size, 1, none⟩ = some (.slice pr N.rows.length kr) ∧ X.cell? ⟨w.heap.size, 2, none⟩ = some (.slice pe N.ends.length ke)) := Lib.hid fun X hX => by
    have h := (hX.block w.heap.size (by omega)).trans g0
    refine ⟨?_, ?_, ?_⟩ <;> (unfold World.cell?; rw [h]; rfl)
  clear g0
  obtain ⟨c0, c1, c2⟩ := HC.out W (Below.refl _ _)
  go_wp2_with fail
  refine (rFeed W N pc pr pe pu kc kr ke ku 0 false bs (HV.out.below hB) (HU.out.below hB) hbs).mono ?_
  rintro e W1 ⟨hB1, ⟨hno, rfl⟩ | ⟨hok, s, hsr, po, ko, rfl, hO⟩⟩
  · have hacc : N.acc bs = false := by unfold NZ.acc; rw [hno]; rfl
    have HB := Lib.hid hB1
    have hX1 := hB1.alloc hB1.size (.cells #[.int .i64 0, .bool false] 28)
    have HNO := Lib.hid (And.intro hno hacc)
    clear c0 c1 c2 hno hacc
    obtain ⟨c0, c1, c2⟩ := HC.out _ hX1
    go_wp2_with fail
    refine (rFinish _ N pc pr pe kc kr ke 0 false (HV.out.below (hB.trans (hX1.mono hB.size)))).mono ?_
    rintro e W2 ⟨rfl, hB2⟩
    have hf : N.fin 0 false = false := by unfold NZ.fin; rw [HNO.out.1]; rfl
    rw [hf]
    have hBx := (hB.trans (hX1.mono hB.size)).trans (hB2.mono (hB.trans (hX1.mono hB.size)).size)
    clear hf
    go_wp2
    go_ret2
    exact ⟨hBx, .inl ⟨HNO.out.2, rfl⟩⟩
  · have hsr' : s = N.run ⟨0, false, []⟩ bs := hsr.out
    have hX1 := hB1.alloc hB1.size (.cells #[.int .i64 s.pos, .bool s.ref] 28)
    have hacc : N.acc bs = N.fin s.pos s.ref := by unfold NZ.acc; rw [hok, ← hsr']; rfl
    have HA := Lib.hid (And.intro hacc hsr')
    have HO := Lib.hid (hO.alloc (.cells #[.int .i64 s.pos, .bool s.ref] 28))
    clear c0 c1 c2 hok hacc hsr hsr' hO
    obtain ⟨c0, c1, c2⟩ := HC.out _ hX1
    go_wp2_with fail
    refine (rFinish _ N pc pr pe kc kr ke s.pos s.ref (HV.out.below (hB.trans (hX1.mono hB.size)))).mono ?_
    rintro e W2 ⟨rfl, hB2⟩
    have hBx := (hB.trans (hX1.mono hB.size)).trans (hB2.mono (hB.trans (hX1.mono hB.size)).size)
    have HO2 := Lib.hid ((HO.out.below' hB2).mono hB.size)
    cases hf : N.fin s.pos s.ref with
    | false =>
      have hacc := HA.out.1.trans hf
      have HAC := Lib.hid hacc
      clear hacc hf
      go_wp2
      go_ret2
      exact ⟨hBx, .inl ⟨HAC.out, rfl⟩⟩
    | true =>
      have hacc := HA.out.1.trans hf
      have HAC := Lib.hid hacc
      clear hacc hf
      go_wp2
      go_ret2
      exact ⟨hBx, .inr ⟨HAC.out, s.out, Lib.hid (by rw [HA.out.2]), po, ko, rfl, HO2.out⟩⟩
end Go.Proofs.YtgflelodpcgmbaaGreatDoor
