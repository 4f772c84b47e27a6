/- The walk of univocallaw25.NormalMatchesReference: it returns true. -/
import Derived.Test.YtgflelodpcgmbaaGreatDoorMSanity
import Derived.Test.YtgflelodpcgmbaaGreatDoorMRFeed
import Derived.Test.YtgflelodpcgmbaaGreatDoorMSliceP
namespace Go.Proofs.YtgflelodpcgmbaaGreatDoor
open Go Go.RowKit Mem
set_option maxRecDepth 100000

/-- what feeding a message from a state leads to, also where there is no such state -/
def NZ.fed (N : NZ) (at_ : Int) (r : Bool) (bs : List UInt8) : St := if N.okAt at_ = true then N.run ⟨at0 r at_, r, []⟩ bs else ⟨0, false, []⟩
/-- what Run returns -/
def NZ.ans (N : NZ) (bs : List UInt8) : List UInt8 := if N.acc bs = true then (N.run ⟨0, false, []⟩ bs).out else []

section
variable (w : World) (N : NZ) (pc pr pe pu : Option Addr) (kc kr ke ku : Nat) (at_ : Int) (r : Bool) (bs : List UInt8) (hv : NzAt w (.agg #[.slice pc N.cls.length kc, .slice pr N.rows.length kr, .slice pe N.ends.length ke]) N) (hu : Rd u8V w (.slice pu bs.length ku) bs) (hbs : bs.length ≤ 140737488351232)
include hv hu hbs
def FedPost (w : World) (N : NZ) (at_ : Int) (r : Bool) (bs : List UInt8) (e : Ending) (w' : World) : Prop := Below w.heap.size w w' ∧ ∃ po ko, e = .returned (.tuple #[.agg #[.int .i64 (N.fed at_ r bs).pos, .bool (N.fed at_ r bs).ref], .slice po (N.fed at_ r bs).out.length ko]) ∧ Rd u8V w' (.slice po (N.fed at_ r bs).out.length ko) (N.fed at_ r bs).out
def AnsPost (w : World) (N : NZ) (bs : List UInt8) (e : Ending) (w' : World) : Prop := Below w.heap.size w w' ∧ ∃ po ko, e = .returned (.tuple #[.slice po (N.ans bs).length ko, .bool (N.acc bs)]) ∧ Rd u8V w' (.slice po (N.ans bs).length ko) (N.ans bs)
theorem nFeedF : Calls Tryz.prog 11 #[.agg #[.slice pc N.cls.length kc, .slice pr N.rows.length kr, .slice pe N.ends.length ke], .agg #[.int .i64 at_, .bool r], .slice pu bs.length ku] w (FedPost w N at_ r bs) := by
  refine (nFeedG w N pc pr pe pu kc kr ke ku at_ r bs hv hu hbs (fun h => valid_cov h)).mono ?_
  rintro e w' ⟨hb, ⟨hno, rfl⟩ | ⟨hok, s, hs, po, ko, rfl, hO⟩⟩
  · have h : N.fed at_ r bs = ⟨0, false, []⟩ := by unfold NZ.fed; rw [hno]; rfl
    refine ⟨hb, none, 0, ?_, ?_⟩ <;> rw [h]
    · rfl
    · exact .inl ⟨none, rfl, rfl⟩
  · have h : N.fed at_ r bs = s := by unfold NZ.fed; rw [if_pos hok]; exact hs.out.symm
    refine ⟨hb, po, ko, ?_, ?_⟩ <;> rw [h]
    exact hO.rd
theorem rFeedF : Calls Tryz.prog 12 #[.agg #[.slice pc N.cls.length kc, .slice pr N.rows.length kr, .slice pe N.ends.length ke], .agg #[.int .i64 at_, .bool r], .slice pu bs.length ku] w (FedPost w N at_ r bs) := by
  refine (rFeed w N pc pr pe pu kc kr ke ku at_ r bs hv hu hbs).mono ?_
  rintro e w' ⟨hb, ⟨hno, rfl⟩ | ⟨hok, s, hs, po, ko, rfl, hO⟩⟩
  · have h : N.fed at_ r bs = ⟨0, false, []⟩ := by unfold NZ.fed; rw [hno]; rfl
    refine ⟨hb, none, 0, ?_, ?_⟩ <;> rw [h]
    · rfl
    · exact .inl ⟨none, rfl, rfl⟩
  · have h : N.fed at_ r bs = s := by unfold NZ.fed; rw [if_pos hok]; exact hs.out.symm
    refine ⟨hb, po, ko, ?_, ?_⟩ <;> rw [h]
    exact hO.rd
theorem nRunF : Calls Tryz.prog 9 #[.agg #[.slice pc N.cls.length kc, .slice pr N.rows.length kr, .slice pe N.ends.length ke], .slice pu bs.length ku] w (AnsPost w N bs) := by
  refine (nRunG w N pc pr pe pu kc kr ke ku bs hv hu hbs (fun h => valid_cov h)).mono ?_
  rintro e w' ⟨hb, ⟨hno, rfl⟩ | ⟨hok, s, hs, po, ko, rfl, hO⟩⟩
  · have h : N.ans bs = [] := by unfold NZ.ans; rw [hno]; rfl
    refine ⟨hb, none, 0, ?_, ?_⟩ <;> rw [h]
    · rw [hno]; rfl
    · exact .inl ⟨none, rfl, rfl⟩
  · have h : N.ans bs = s := by unfold NZ.ans; rw [if_pos hok]; exact hs.out.symm
    refine ⟨hb, po, ko, ?_, ?_⟩ <;> rw [h]
    · rw [hok]
    · exact hO.rd
theorem rRunF : Calls Tryz.prog 10 #[.agg #[.slice pc N.cls.length kc, .slice pr N.rows.length kr, .slice pe N.ends.length ke], .slice pu bs.length ku] w (AnsPost w N bs) := by
  refine (rRun w N pc pr pe pu kc kr ke ku bs hv hu hbs).mono ?_
  rintro e w' ⟨hb, ⟨hno, rfl⟩ | ⟨hok, s, hs, po, ko, rfl, hO⟩⟩
  · have h : N.ans bs = [] := by unfold NZ.ans; rw [hno]; rfl
    refine ⟨hb, none, 0, ?_, ?_⟩ <;> rw [h]
    · rw [hno]; rfl
    · exact .inl ⟨none, rfl, rfl⟩
  · have h : N.ans bs = s := by unfold NZ.ans; rw [if_pos hok]; exact hs.out.symm
    refine ⟨hb, po, ko, ?_, ?_⟩ <;> rw [h]
    · rw [hok]
    · exact hO.rd
end

/-- == of two states as one step of a region that draws its order -/
theorem yields_eq_ns {ops : Array Oper} {o : Oper} {a : Act} {S : World → Prop} (x y : Operand) (t : TypeId) (ho : o.op = .binOp .eql 28 x y t) (p : Int) (b : Bool) (hx : a.eval x = .agg #[.int .i64 p, .bool b]) (hy : a.eval y = .agg #[.int .i64 p, .bool b]) (hw : Region.wanted o (yielded ops a.tmps) = true) :
    YieldsIf Tryz.prog ops S o (.bool true) a := by
  refine yieldsIf_op hw fun W => ?_
  unfold execOp
  have hg := run_eqGuard_agg (P := Tryz.prog) W .eql 28 x y #[.int .i64 p, .bool b] #[.int .i64 p, .bool b] guardNS
  simp only [ho, hx, hy, Sem.run_bind, hg, eq_ns, Result.andThen_ok]
  simp

set_option maxHeartbeats 32000000 in
theorem matchW (w : World) (N : NZ) (pc pr pe p2 : Option Addr) (kc kr ke c2 : Nat) (at_ : Int) (r : Bool) (b : List UInt8) (hv : NzAt w (.agg #[.slice pc N.cls.length kc, .slice pr N.rows.length kr, .slice pe N.ends.length ke]) N) (hb0 : Rd u8V w (.slice p2 b.length c2) b) (hbn : b.length ≤ 140737488351232) :
    Calls Tryz.prog 3 #[.agg #[.slice pc N.cls.length kc, .slice pr N.rows.length kr, .slice pe N.ends.length ke], .agg #[.int .i64 at_, .bool r], .slice p2 b.length c2] w fun e w' => e = .returned (.bool true) ∧ Below w.heap.size w w' := by
  have HV := Lib.hid hv
  have HB := Lib.hid hb0
  clear hv hb0
  go_enter Tryz.func3, Tryz.ntmps3
  go_upto_region 1 with (fail)
  obtain ⟨W, hW, hB, hs, g0, g1⟩ : ∃ W, ((w.alloc (.cells #[.slice pc N.cls.length kc, .slice pr N.rows.length kr, .slice pe N.ends.length ke] 26)).alloc (.cells #[.int .i64 at_, .bool r] 28)) = W ∧ Below w.heap.size w W ∧ w.heap.size + 2 ≤ W.heap.size ∧ Row oV W w.heap.size 26 [slO pc N.cls.length kc, slO pr N.rows.length kr, slO pe N.ends.length ke] ∧ Row oV W (w.heap.size + 1) 28 [oi at_, ob r] := by
    refine ⟨_, rfl, below_al (below_al (Below.refl _ _) (Nat.le_refl _) _) (Nat.le_refl _) _, by simp, ?_, ?_⟩
    · exact Row.alloc (Row.new (f := oV) (l := [slO pc N.cls.length kc, slO pr N.rows.length kr, slO pe N.ends.length ke]) w _ rfl) _
    · have h := Row.new (f := oV) (l := [oi at_, ob r]) (w.alloc (.cells #[.slice pc N.cls.length kc, .slice pr N.rows.length kr, .slice pe N.ends.length ke] 26)) (.cells #[.int .i64 at_, .bool r] 28) (t := 28) rfl
      simpa using h
  rw [hW]
  clear hW
  go_wp2_with fail
  refine (sanity1 W).mono ?_
  rintro e X1 ⟨rfl, hb1⟩
  have HR3 := Lib.hid (g0.below hb1 g0.lt)
  have HR4 := Lib.hid (g1.below hb1 g1.lt)
  replace hB := hB.trans (hb1.mono hB.size)
  have hl3 : w.heap.size < X1.heap.size := HR3.out.lt
  have hl4 : w.heap.size + 1 < X1.heap.size := HR4.out.lt
  clear hb1 g0 g1 hs
  go_wp2_with ((with_reducible refine load_agg (f := oV) (l := [slO pc N.cls.length kc, slO pr N.rows.length kr, slO pe N.ends.length ke]) (C := #[.slice pc N.cls.length kc, .slice pr N.rows.length kr, .slice pe N.ends.length ke]) aggNorm (.tmp 3) ?_ ?_ w.heap.size 0 ?_ HR3.out.at rfl ?_); rfl; rfl; rfl)
  refine (nRunF X1 N pc pr pe p2 kc kr ke c2 b (HV.out.below hB) (HB.out.below hB) hbn).mono ?_
  rintro e X2 ⟨hb, poa, koa, rfl, hrd⟩
  have RDa := Lib.hid hrd
  clear hrd
  replace HR3 := Lib.hid (HR3.out.below hb hl3)
  replace HR4 := Lib.hid (HR4.out.below hb hl4)
  replace hB := hB.trans (hb.mono hB.size)
  replace hl3 : w.heap.size < X2.heap.size := HR3.out.lt
  replace hl4 : w.heap.size + 1 < X2.heap.size := HR4.out.lt
  clear hb
  go_wp2_with ((with_reducible refine load_agg (f := oV) (l := [slO pc N.cls.length kc, slO pr N.rows.length kr, slO pe N.ends.length ke]) (C := #[.slice pc N.cls.length kc, .slice pr N.rows.length kr, .slice pe N.ends.length ke]) aggNorm (.tmp 3) ?_ ?_ w.heap.size 0 ?_ HR3.out.at rfl ?_); rfl; rfl; rfl)
  refine (rRunF X2 N pc pr pe p2 kc kr ke c2 b (HV.out.below hB) (HB.out.below hB) hbn).mono ?_
  rintro e X3 ⟨hb, pob, kob, rfl, hrd⟩
  have RDb := Lib.hid hrd
  clear hrd
  replace HR3 := Lib.hid (HR3.out.below hb hl3)
  replace HR4 := Lib.hid (HR4.out.below hb hl4)
  replace hB := hB.trans (hb.mono hB.size)
  replace hl3 : w.heap.size < X3.heap.size := HR3.out.lt
  replace hl4 : w.heap.size + 1 < X3.heap.size := HR4.out.lt
  replace RDa := Lib.hid (RDa.out.below hb)
  clear hb
  generalize N.ans b = am at *
  go_wp2_with (first | ((with_reducible refine load_agg (f := oV) (l := [slO pc N.cls.length kc, slO pr N.rows.length kr, slO pe N.ends.length ke]) (C := #[.slice pc N.cls.length kc, .slice pr N.rows.length kr, .slice pe N.ends.length ke]) aggNorm (.tmp 3) ?_ ?_ w.heap.size 0 ?_ HR3.out.at rfl ?_); rfl; rfl; rfl) | ((with_reducible refine load_agg (f := oV) (l := [oi at_, ob r]) (C := #[.int .i64 at_, .bool r]) aggNS (.tmp 4) ?_ ?_ (w.heap.size + 1) 0 ?_ HR4.out.at rfl ?_); rfl; rfl; rfl))
  refine (nFeedF X3 N pc pr pe p2 kc kr ke c2 at_ r b (HV.out.below hB) (HB.out.below hB) hbn).mono ?_
  rintro e X4 ⟨hb, poc, koc, rfl, hrd⟩
  have RDc := Lib.hid hrd
  clear hrd
  replace HR3 := Lib.hid (HR3.out.below hb hl3)
  replace HR4 := Lib.hid (HR4.out.below hb hl4)
  replace hB := hB.trans (hb.mono hB.size)
  replace hl3 : w.heap.size < X4.heap.size := HR3.out.lt
  replace hl4 : w.heap.size + 1 < X4.heap.size := HR4.out.lt
  replace RDa := Lib.hid (RDa.out.below hb)
  replace RDb := Lib.hid (RDb.out.below hb)
  clear hb
  obtain ⟨S, hS⟩ : ∃ S, S = N.fed at_ r b := ⟨_, rfl⟩
  rw [← hS] at RDc ⊢
  replace hS := Lib.hid hS
  have hZ : Row oV (X4.alloc (.cells #[.int .i64 0, .bool false] 28)) X4.heap.size 28 [oi 0, ob false] := Row.new _ _ rfl
  go_upto_region 5 with (((with_reducible refine store_agg (f := oV) (l := [oi 0, ob false]) (l' := [oi S.pos, ob S.ref]) (t := 28) (C := #[.int .i64 S.pos, .bool S.ref]) aggNS (.tmp 12) (.tmp 34) ?_ ?_ X4.heap.size ?_ ?_ ?_ hZ ?_ oV_one ?_); rfl; rfl; rfl; rfl; rfl; rfl; (intro X5 hs hG hz)))
  have hb := below_row (Below.refl X4.heap.size X4) hG
  have HR12 := Lib.hid hs
  have hl12 : X4.heap.size < X5.heap.size := hs.lt
  clear hZ hs hG hz
  replace HR3 := Lib.hid (HR3.out.below hb hl3)
  replace HR4 := Lib.hid (HR4.out.below hb hl4)
  replace hB := hB.trans (hb.mono hB.size)
  replace hl3 : w.heap.size < X5.heap.size := HR3.out.lt
  replace hl4 : w.heap.size + 1 < X5.heap.size := HR4.out.lt
  replace RDa := Lib.hid (RDa.out.below hb)
  replace RDb := Lib.hid (RDb.out.below hb)
  replace RDc := Lib.hid (RDc.out.below hb)
  clear hb
  generalize X4.heap.size = n12 at *
  go_wp2_with (first | ((with_reducible refine load_agg (f := oV) (l := [slO pc N.cls.length kc, slO pr N.rows.length kr, slO pe N.ends.length ke]) (C := #[.slice pc N.cls.length kc, .slice pr N.rows.length kr, .slice pe N.ends.length ke]) aggNorm (.tmp 3) ?_ ?_ w.heap.size 0 ?_ HR3.out.at rfl ?_); rfl; rfl; rfl) | ((with_reducible refine load_agg (f := oV) (l := [oi at_, ob r]) (C := #[.int .i64 at_, .bool r]) aggNS (.tmp 4) ?_ ?_ (w.heap.size + 1) 0 ?_ HR4.out.at rfl ?_); rfl; rfl; rfl))
  refine (rFeedF X5 N pc pr pe p2 kc kr ke c2 at_ r b (HV.out.below hB) (HB.out.below hB) hbn).mono ?_
  rintro e X6 ⟨hb, pod, kod, rfl, hrd⟩
  have RDd := Lib.hid hrd
  clear hrd
  replace HR3 := Lib.hid (HR3.out.below hb hl3)
  replace HR4 := Lib.hid (HR4.out.below hb hl4)
  replace hB := hB.trans (hb.mono hB.size)
  replace hl3 : w.heap.size < X6.heap.size := HR3.out.lt
  replace hl4 : w.heap.size + 1 < X6.heap.size := HR4.out.lt
  replace RDa := Lib.hid (RDa.out.below hb)
  replace RDb := Lib.hid (RDb.out.below hb)
  replace RDc := Lib.hid (RDc.out.below hb)
  replace HR12 := Lib.hid (HR12.out.below hb hl12)
  replace hl12 : n12 < X6.heap.size := HR12.out.lt
  clear hb
  rw [← hS.out] at RDd ⊢
  clear hS
  have hZ : Row oV (X6.alloc (.cells #[.int .i64 0, .bool false] 28)) X6.heap.size 28 [oi 0, ob false] := Row.new _ _ rfl
  go_upto_region 6 with (((with_reducible refine store_agg (f := oV) (l := [oi 0, ob false]) (l' := [oi S.pos, ob S.ref]) (t := 28) (C := #[.int .i64 S.pos, .bool S.ref]) aggNS (.tmp 14) (.tmp 41) ?_ ?_ X6.heap.size ?_ ?_ ?_ hZ ?_ oV_one ?_); rfl; rfl; rfl; rfl; rfl; rfl; (intro X7 hs hG hz)))
  have hb := below_row (Below.refl X6.heap.size X6) hG
  have HR14 := Lib.hid hs
  have hl14 : X6.heap.size < X7.heap.size := hs.lt
  clear hZ hs hG hz
  replace HR3 := Lib.hid (HR3.out.below hb hl3)
  replace HR4 := Lib.hid (HR4.out.below hb hl4)
  replace hB := hB.trans (hb.mono hB.size)
  replace hl3 : w.heap.size < X7.heap.size := HR3.out.lt
  replace hl4 : w.heap.size + 1 < X7.heap.size := HR4.out.lt
  replace RDa := Lib.hid (RDa.out.below hb)
  replace RDb := Lib.hid (RDb.out.below hb)
  replace RDc := Lib.hid (RDc.out.below hb)
  replace HR12 := Lib.hid (HR12.out.below hb hl12)
  replace hl12 : n12 < X7.heap.size := HR12.out.lt
  replace RDd := Lib.hid (RDd.out.below hb)
  clear hb
  generalize X6.heap.size = n14 at *
  generalize S.pos = fp at *
  generalize S.ref = fr at *
  generalize S.out = fo at *
  replace hB := Lib.hid hB
  have HCV : Hid (∀ Y, Below X7.heap.size X7 Y → (convert 29 9 (.slice poa am.length koa)).run Tryz.prog Y = .ok (.string ⟨am.toArray⟩) Y ∧ (convert 29 9 (.slice pob am.length kob)).run Tryz.prog Y = .ok (.string ⟨am.toArray⟩) Y ∧ (convert 29 9 (.slice poc fo.length koc)).run Tryz.prog Y = .ok (.string ⟨fo.toArray⟩) Y ∧ (convert 29 9 (.slice pod fo.length kod)).run Tryz.prog Y = .ok (.string ⟨fo.toArray⟩) Y) := Lib.hid fun Y hY => ⟨run_convert_rd Tryz.underlying29 Tryz.underlying5 Tryz.underlying9 (RDa.out.below hY), run_convert_rd Tryz.underlying29 Tryz.underlying5 Tryz.underlying9 (RDb.out.below hY), run_convert_rd Tryz.underlying29 Tryz.underlying5 Tryz.underlying9 (RDc.out.below hY), run_convert_rd Tryz.underlying29 Tryz.underlying5 Tryz.underlying9 (RDd.out.below hY)⟩
  have HV7 := Lib.hid (HV.out.below hB.out)
  clear RDa RDb RDc RDd HV HB
  refine wp_region_held_drew (S := fun XX => Below X7.heap.size X7 XX) rfl (Below.refl _ _).drew fun hS => ?_
  refine takeD (i := 0) (d := 43) (v := .bool true) rfl rfl (by kernel_rfl) (by kernel_rfl) (by kernel_rfl) (fun c a w h => h) (yieldsIf_op rfl (fun w => by first | rfl | kernel_rfl | (go_simp; done))) hS ?_
  simp only [List.setIfInBounds_toArray, List.set_cons_succ, List.set_cons_zero]
  refine takeD (i := 1) (d := 44) (v := .bool true) rfl rfl (by kernel_rfl) (by kernel_rfl) (by kernel_rfl) (fun c a w h => h) (yieldsIf_op rfl (fun w => by first | rfl | kernel_rfl | (go_simp; done))) hS ?_
  simp only [List.setIfInBounds_toArray, List.set_cons_succ, List.set_cons_zero]
  refine takeD (i := 2) (d := 45) (v := .agg #[.slice pc N.cls.length kc, .slice pr N.rows.length kr, .slice pe N.ends.length ke]) rfl rfl (by kernel_rfl) (by kernel_rfl) (by kernel_rfl) (fun c a w h => h) (yieldsIf_load (f := oV) (l := [slO pc N.cls.length kc, slO pr N.rows.length kr, slO pe N.ends.length ke]) aggNorm (.tmp 3) rfl w.heap.size 0 rfl (fun W' h => (HR3.out.below h hl3).at) rfl rfl) hS ?_
  simp only [List.setIfInBounds_toArray, List.set_cons_succ, List.set_cons_zero]
  refine takeD (i := 4) (d := 47) (v := .agg #[.slice pc N.cls.length kc, .slice pr N.rows.length kr, .slice pe N.ends.length ke]) rfl rfl (by kernel_rfl) (by kernel_rfl) (by kernel_rfl) (fun c a w h => h) (yieldsIf_load (f := oV) (l := [slO pc N.cls.length kc, slO pr N.rows.length kr, slO pe N.ends.length ke]) aggNorm (.tmp 3) rfl w.heap.size 0 rfl (fun W' h => (HR3.out.below h hl3).at) rfl rfl) hS ?_
  simp only [List.setIfInBounds_toArray, List.set_cons_succ, List.set_cons_zero]
  refine wpAnyH_ready (rs := [3]) (by kernel_rfl) (by simp) (AllReadyH.cons rfl (fun K' hK => ?_) AllReadyH.nil)
  refine callD (d := 46) (g := 13) (args := #[.agg #[.slice pc N.cls.length kc, .slice pr N.rows.length kr, .slice pe N.ends.length ke]]) rfl rfl (by first | kernel_rfl | (simp [execOp, resolve, invoke, Act.eval]) | go_simp) ?_
  refine (nValid _ _ N (HV7.out.below hS)).mono ?_
  rintro e Y46 ⟨rfl, hBx⟩
  replace hS := hS.trans (hBx.mono hS.size)
  refine ⟨_, rfl, hK.out _ _ hS fun _ => ?_⟩
  clear hK hBx
  simp only [List.setIfInBounds_toArray, List.set_cons_succ, List.set_cons_zero]
  refine wpAnyH_ready (rs := [5]) (by kernel_rfl) (by simp) (AllReadyH.cons rfl (fun K' hK => ?_) AllReadyH.nil)
  refine callD (d := 48) (g := 14) (args := #[.agg #[.slice pc N.cls.length kc, .slice pr N.rows.length kr, .slice pe N.ends.length ke]]) rfl rfl (by first | kernel_rfl | (simp [execOp, resolve, invoke, Act.eval]) | go_simp) ?_
  refine (rValid _ _ N (HV7.out.below hS)).mono ?_
  rintro e Y48 ⟨rfl, hBx⟩
  replace hS := hS.trans (hBx.mono hS.size)
  refine ⟨_, rfl, hK.out _ _ hS fun _ => ?_⟩
  clear hK hBx
  simp only [List.setIfInBounds_toArray, List.set_cons_succ, List.set_cons_zero]
  refine takeD (i := 6) (d := 49) (v := .bool true) rfl rfl (by kernel_rfl) (by kernel_rfl) (by kernel_rfl) (fun c a w h => h) (yieldsIf_op rfl (fun w => by go_simp)) hS ?_
  simp only [List.setIfInBounds_toArray, List.set_cons_succ, List.set_cons_zero]
  refine takeD (i := 7) (d := 50) (v := .bool true) rfl rfl (by kernel_rfl) (by kernel_rfl) (by kernel_rfl) (fun c a w h => h) (yieldsIf_op rfl (fun w => by first | rfl | kernel_rfl | (go_simp; done))) hS ?_
  simp only [List.setIfInBounds_toArray, List.set_cons_succ, List.set_cons_zero]
  refine takeD (i := 8) (d := 51) (v := .bool true) rfl rfl (by kernel_rfl) (by kernel_rfl) (by kernel_rfl) (fun c a w h => h) (yieldsIf_op rfl (fun w => by first | rfl | kernel_rfl | (go_simp; done))) hS ?_
  simp only [List.setIfInBounds_toArray, List.set_cons_succ, List.set_cons_zero]
  refine takeD (i := 9) (d := 52) (v := .bool (N.acc b)) rfl rfl (by kernel_rfl) (by kernel_rfl) (by kernel_rfl) (fun c a w h => h) (yieldsIf_op rfl (fun w => by first | rfl | kernel_rfl | (go_simp; done))) hS ?_
  simp only [List.setIfInBounds_toArray, List.set_cons_succ, List.set_cons_zero]
  refine takeD (i := 10) (d := 53) (v := .bool (N.acc b)) rfl rfl (by kernel_rfl) (by kernel_rfl) (by kernel_rfl) (fun c a w h => h) (yieldsIf_op rfl (fun w => by first | rfl | kernel_rfl | (go_simp; done))) hS ?_
  simp only [List.setIfInBounds_toArray, List.set_cons_succ, List.set_cons_zero]
  refine takeD (i := 11) (d := 54) (v := .bool true) rfl rfl (by kernel_rfl) (by kernel_rfl) (by kernel_rfl) (fun c a w h => h) (yieldsIf_op rfl (fun w => by go_simp)) hS ?_
  simp only [List.setIfInBounds_toArray, List.set_cons_succ, List.set_cons_zero]
  refine takeD (i := 12) (d := 55) (v := .bool true) rfl rfl (by kernel_rfl) (by kernel_rfl) (by kernel_rfl) (fun c a w h => h) (yieldsIf_op rfl (fun w => by first | rfl | kernel_rfl | (go_simp; done))) hS ?_
  simp only [List.setIfInBounds_toArray, List.set_cons_succ, List.set_cons_zero]
  refine takeD (i := 13) (d := 56) (v := .bool true) rfl rfl (by kernel_rfl) (by kernel_rfl) (by kernel_rfl) (fun c a w h => h) (yieldsIf_op rfl (fun w => by first | rfl | kernel_rfl | (go_simp; done))) hS ?_
  simp only [List.setIfInBounds_toArray, List.set_cons_succ, List.set_cons_zero]
  refine takeD (i := 14) (d := 57) (v := .slice poa am.length koa) rfl rfl (by kernel_rfl) (by kernel_rfl) (by kernel_rfl) (fun c a w h => h) (yieldsIf_op rfl (fun w => by first | rfl | kernel_rfl | (go_simp; done))) hS ?_
  simp only [List.setIfInBounds_toArray, List.set_cons_succ, List.set_cons_zero]
  refine takeD (i := 15) (d := 58) (v := .string ⟨am.toArray⟩) rfl rfl (by kernel_rfl) (by kernel_rfl) (by kernel_rfl) (fun c a w h => h) (.inl ⟨by first | rfl | kernel_rfl, fun W' h => by obtain ⟨q0, q1, q2, q3⟩ := HCV.out W' h; go_simp⟩) hS ?_
  simp only [List.setIfInBounds_toArray, List.set_cons_succ, List.set_cons_zero]
  refine takeD (i := 16) (d := 59) (v := .slice pob am.length kob) rfl rfl (by kernel_rfl) (by kernel_rfl) (by kernel_rfl) (fun c a w h => h) (yieldsIf_op rfl (fun w => by first | rfl | kernel_rfl | (go_simp; done))) hS ?_
  simp only [List.setIfInBounds_toArray, List.set_cons_succ, List.set_cons_zero]
  refine takeD (i := 17) (d := 60) (v := .string ⟨am.toArray⟩) rfl rfl (by kernel_rfl) (by kernel_rfl) (by kernel_rfl) (fun c a w h => h) (.inl ⟨by first | rfl | kernel_rfl, fun W' h => by obtain ⟨q0, q1, q2, q3⟩ := HCV.out W' h; go_simp⟩) hS ?_
  simp only [List.setIfInBounds_toArray, List.set_cons_succ, List.set_cons_zero]
  refine takeD (i := 18) (d := 61) (v := .bool true) rfl rfl (by kernel_rfl) (by kernel_rfl) (by kernel_rfl) (fun c a w h => h) (yieldsIf_op rfl (fun w => by go_simp)) hS ?_
  simp only [List.setIfInBounds_toArray, List.set_cons_succ, List.set_cons_zero]
  refine takeD (i := 19) (d := 62) (v := .bool true) rfl rfl (by kernel_rfl) (by kernel_rfl) (by kernel_rfl) (fun c a w h => h) (yieldsIf_op rfl (fun w => by first | rfl | kernel_rfl | (go_simp; done))) hS ?_
  simp only [List.setIfInBounds_toArray, List.set_cons_succ, List.set_cons_zero]
  refine takeD (i := 20) (d := 63) (v := .bool true) rfl rfl (by kernel_rfl) (by kernel_rfl) (by kernel_rfl) (fun c a w h => h) (yieldsIf_op rfl (fun w => by first | rfl | kernel_rfl | (go_simp; done))) hS ?_
  simp only [List.setIfInBounds_toArray, List.set_cons_succ, List.set_cons_zero]
  refine takeD (i := 21) (d := 64) (v := .agg #[.int .i64 fp, .bool fr]) rfl rfl (by kernel_rfl) (by kernel_rfl) (by kernel_rfl) (fun c a w h => h) (yieldsIf_load (f := oV) (l := [oi fp, ob fr]) aggNS (.tmp 12) rfl n12 0 rfl (fun W' h => (HR12.out.below h hl12).at) rfl rfl) hS ?_
  simp only [List.setIfInBounds_toArray, List.set_cons_succ, List.set_cons_zero]
  refine takeD (i := 22) (d := 65) (v := .agg #[.int .i64 fp, .bool fr]) rfl rfl (by kernel_rfl) (by kernel_rfl) (by kernel_rfl) (fun c a w h => h) (yieldsIf_load (f := oV) (l := [oi fp, ob fr]) aggNS (.tmp 14) rfl n14 0 rfl (fun W' h => (HR14.out.below h hl14).at) rfl rfl) hS ?_
  simp only [List.setIfInBounds_toArray, List.set_cons_succ, List.set_cons_zero]
  refine takeD (i := 23) (d := 66) (v := .bool true) rfl rfl (by kernel_rfl) (by kernel_rfl) (by kernel_rfl) (fun c a w h => h) (yields_eq_ns (.tmp 64) (.tmp 65) 28 rfl fp fr rfl rfl rfl) hS ?_
  simp only [List.setIfInBounds_toArray, List.set_cons_succ, List.set_cons_zero]
  refine takeD (i := 24) (d := 67) (v := .bool true) rfl rfl (by kernel_rfl) (by kernel_rfl) (by kernel_rfl) (fun c a w h => h) (yieldsIf_op rfl (fun w => by first | rfl | kernel_rfl | (go_simp; done))) hS ?_
  simp only [List.setIfInBounds_toArray, List.set_cons_succ, List.set_cons_zero]
  refine takeD (i := 25) (d := 68) (v := .bool true) rfl rfl (by kernel_rfl) (by kernel_rfl) (by kernel_rfl) (fun c a w h => h) (yieldsIf_op rfl (fun w => by first | rfl | kernel_rfl | (go_simp; done))) hS ?_
  simp only [List.setIfInBounds_toArray, List.set_cons_succ, List.set_cons_zero]
  refine takeD (i := 26) (d := 69) (v := .slice poc fo.length koc) rfl rfl (by kernel_rfl) (by kernel_rfl) (by kernel_rfl) (fun c a w h => h) (yieldsIf_op rfl (fun w => by first | rfl | kernel_rfl | (go_simp; done))) hS ?_
  simp only [List.setIfInBounds_toArray, List.set_cons_succ, List.set_cons_zero]
  refine takeD (i := 27) (d := 70) (v := .string ⟨fo.toArray⟩) rfl rfl (by kernel_rfl) (by kernel_rfl) (by kernel_rfl) (fun c a w h => h) (.inl ⟨by first | rfl | kernel_rfl, fun W' h => by obtain ⟨q0, q1, q2, q3⟩ := HCV.out W' h; go_simp⟩) hS ?_
  simp only [List.setIfInBounds_toArray, List.set_cons_succ, List.set_cons_zero]
  refine takeD (i := 28) (d := 71) (v := .slice pod fo.length kod) rfl rfl (by kernel_rfl) (by kernel_rfl) (by kernel_rfl) (fun c a w h => h) (yieldsIf_op rfl (fun w => by first | rfl | kernel_rfl | (go_simp; done))) hS ?_
  simp only [List.setIfInBounds_toArray, List.set_cons_succ, List.set_cons_zero]
  refine takeD (i := 29) (d := 72) (v := .string ⟨fo.toArray⟩) rfl rfl (by kernel_rfl) (by kernel_rfl) (by kernel_rfl) (fun c a w h => h) (.inl ⟨by first | rfl | kernel_rfl, fun W' h => by obtain ⟨q0, q1, q2, q3⟩ := HCV.out W' h; go_simp⟩) hS ?_
  simp only [List.setIfInBounds_toArray, List.set_cons_succ, List.set_cons_zero]
  refine takeD (i := 30) (d := 73) (v := .bool true) rfl rfl (by kernel_rfl) (by kernel_rfl) (by kernel_rfl) (fun c a w h => h) (yieldsIf_op rfl (fun w => by go_simp)) hS ?_
  simp only [List.setIfInBounds_toArray, List.set_cons_succ, List.set_cons_zero]
  refine takeD (i := 31) (d := 74) (v := .bool true) rfl rfl (by kernel_rfl) (by kernel_rfl) (by kernel_rfl) (fun c a w h => h) (yieldsIf_op rfl (fun w => by first | rfl | kernel_rfl | (go_simp; done))) hS ?_
  simp only [List.setIfInBounds_toArray, List.set_cons_succ, List.set_cons_zero]
  refine takeD (i := 32) (d := 75) (v := .bool true) rfl rfl (by kernel_rfl) (by kernel_rfl) (by kernel_rfl) (fun c a w h => h) (yieldsIf_op rfl (fun w => by first | rfl | kernel_rfl | (go_simp; done))) hS ?_
  simp only [List.setIfInBounds_toArray, List.set_cons_succ, List.set_cons_zero]
  refine takeD (i := 33) (d := 76) (v := .agg #[.slice pc N.cls.length kc, .slice pr N.rows.length kr, .slice pe N.ends.length ke]) rfl rfl (by kernel_rfl) (by kernel_rfl) (by kernel_rfl) (fun c a w h => h) (yieldsIf_load (f := oV) (l := [slO pc N.cls.length kc, slO pr N.rows.length kr, slO pe N.ends.length ke]) aggNorm (.tmp 3) rfl w.heap.size 0 rfl (fun W' h => (HR3.out.below h hl3).at) rfl rfl) hS ?_
  simp only [List.setIfInBounds_toArray, List.set_cons_succ, List.set_cons_zero]
  refine takeD (i := 34) (d := 77) (v := .agg #[.int .i64 at_, .bool r]) rfl rfl (by kernel_rfl) (by kernel_rfl) (by kernel_rfl) (fun c a w h => h) (yieldsIf_load (f := oV) (l := [oi at_, ob r]) aggNS (.tmp 4) rfl (w.heap.size + 1) 0 rfl (fun W' h => (HR4.out.below h hl4).at) rfl rfl) hS ?_
  simp only [List.setIfInBounds_toArray, List.set_cons_succ, List.set_cons_zero]
  refine takeD (i := 36) (d := 79) (v := .agg #[.slice pc N.cls.length kc, .slice pr N.rows.length kr, .slice pe N.ends.length ke]) rfl rfl (by kernel_rfl) (by kernel_rfl) (by kernel_rfl) (fun c a w h => h) (yieldsIf_load (f := oV) (l := [slO pc N.cls.length kc, slO pr N.rows.length kr, slO pe N.ends.length ke]) aggNorm (.tmp 3) rfl w.heap.size 0 rfl (fun W' h => (HR3.out.below h hl3).at) rfl rfl) hS ?_
  simp only [List.setIfInBounds_toArray, List.set_cons_succ, List.set_cons_zero]
  refine takeD (i := 37) (d := 80) (v := .agg #[.int .i64 at_, .bool r]) rfl rfl (by kernel_rfl) (by kernel_rfl) (by kernel_rfl) (fun c a w h => h) (yieldsIf_load (f := oV) (l := [oi at_, ob r]) aggNS (.tmp 4) rfl (w.heap.size + 1) 0 rfl (fun W' h => (HR4.out.below h hl4).at) rfl rfl) hS ?_
  simp only [List.setIfInBounds_toArray, List.set_cons_succ, List.set_cons_zero]
  refine wpAnyH_ready (rs := [35]) (by kernel_rfl) (by simp) (AllReadyH.cons rfl (fun K' hK => ?_) AllReadyH.nil)
  refine callD (d := 78) (g := 15) (args := #[.agg #[.slice pc N.cls.length kc, .slice pr N.rows.length kr, .slice pe N.ends.length ke], .agg #[.int .i64 at_, .bool r]]) rfl rfl (by first | kernel_rfl | (simp [execOp, resolve, invoke, Act.eval]) | go_simp) ?_
  refine (nFinish _ N pc pr pe kc kr ke at_ r (HV7.out.below hS)).mono ?_
  rintro e Y78 ⟨rfl, hBx⟩
  replace hS := hS.trans (hBx.mono hS.size)
  refine ⟨_, rfl, hK.out _ _ hS fun _ => ?_⟩
  clear hK hBx
  simp only [List.setIfInBounds_toArray, List.set_cons_succ, List.set_cons_zero]
  refine wpAnyH_ready (rs := [38]) (by kernel_rfl) (by simp) (AllReadyH.cons rfl (fun K' hK => ?_) AllReadyH.nil)
  refine callD (d := 81) (g := 16) (args := #[.agg #[.slice pc N.cls.length kc, .slice pr N.rows.length kr, .slice pe N.ends.length ke], .agg #[.int .i64 at_, .bool r]]) rfl rfl (by first | kernel_rfl | (simp [execOp, resolve, invoke, Act.eval]) | go_simp) ?_
  refine (rFinish _ N pc pr pe kc kr ke at_ r (HV7.out.below hS)).mono ?_
  rintro e Y81 ⟨rfl, hBx⟩
  replace hS := hS.trans (hBx.mono hS.size)
  refine ⟨_, rfl, hK.out _ _ hS fun _ => ?_⟩
  clear hK hBx
  simp only [List.setIfInBounds_toArray, List.set_cons_succ, List.set_cons_zero]
  refine takeD (i := 39) (d := 82) (v := .bool true) rfl rfl (by kernel_rfl) (by kernel_rfl) (by kernel_rfl) (fun c a w h => h) (yieldsIf_op rfl (fun w => by go_simp)) hS ?_
  simp only [List.setIfInBounds_toArray, List.set_cons_succ, List.set_cons_zero]
  refine takeD (i := 40) (d := 83) (v := .bool true) rfl rfl (by kernel_rfl) (by kernel_rfl) (by kernel_rfl) (fun c a w h => h) (yieldsIf_op rfl (fun w => by first | rfl | kernel_rfl | (go_simp; done))) hS ?_
  simp only [List.setIfInBounds_toArray, List.set_cons_succ, List.set_cons_zero]
  refine takeD (i := 41) (d := 6) (v := .bool true) rfl rfl (by kernel_rfl) (by kernel_rfl) (by kernel_rfl) (fun c a w h => h) (yieldsIf_op rfl (fun w => by first | rfl | kernel_rfl | (go_simp; done))) hS ?_
  simp only [List.setIfInBounds_toArray, List.set_cons_succ, List.set_cons_zero]
  refine wpAnyH_done (by kernel_rfl) ?_ _
  go_wp2
  go_ret
  exact ⟨rfl, hB.out.trans (hS.mono hB.out.size)⟩
end Go.Proofs.YtgflelodpcgmbaaGreatDoor
