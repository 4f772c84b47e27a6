/- Equality of two states of a normalizer. -/
import Derived.Test.YtgflelodpcgmbaaGreatDoorMMeets
import Derived.Laws.StructEq
namespace Go.Proofs.YtgflelodpcgmbaaGreatDoor
open Go Go.RowKit Mem
set_option maxRecDepth 100000

theorem fieldsNS : Tryz.prog.fieldsOf 28 = #[{ name := "At", type := 3, offset := 0, embedded := false, tag := "", pkgPath := "", byteOffset := 0 }, { name := "Refused", type := 4, offset := 1, embedded := false, tag := "", pkgPath := "", byteOffset := 8 }] := by
  simp [Program.fieldsOf, Tryz.underlying28]
theorem stoodNS : Tryz.prog.stoodInHeld 28 = false := by kernel_rfl
theorem underNS : Tryz.prog.underlying 28 = some (.struct (Tryz.prog.fieldsOf 28)) := by rw [fieldsNS]; exact Tryz.underlying28
theorem notAggI (w : World) : (isAgg 3).run Tryz.prog w = .ok false w := rfl
theorem notAggB (w : World) : (isAgg 4).run Tryz.prog w = .ok false w := rfl
theorem part_i (w : World) (cs : Array Value) (off : Nat) (x : Value) (h : cs[off]? = some x) : (part 3 cs off).run Tryz.prog w = .ok x w := by
  simp [part, h]
theorem part_b (w : World) (cs : Array Value) (off : Nat) (x : Value) (h : cs[off]? = some x) : (part 4 cs off).run Tryz.prog w = .ok x w := by
  simp [part, h]
theorem eqF {P : Program} (w : World) (d : Nat) (xs ys : Array Value) (f : Field) (fs : List Field) (a b : Value) (r : Bool) (hn : f.name ≠ "_") (ha : (part f.type xs f.offset).run P w = .ok a w) (hb : (part f.type ys f.offset).run P w = .ok b w)
    (he : (Op.equalIn d f.type a b).run P w = .ok r w) : (Op.eqFields d xs ys (f :: fs)).run P w = if r = true then (Op.eqFields d xs ys fs).run P w else .ok false w := by
  rw [Op.eqFields, if_pos hn]
  cases r <;> simp [Sem.run_bind, ha, hb, he]
theorem eq_ns (w : World) (a c : Int) (b d : Bool) : (binOp .eql 28 (.agg #[.int .i64 a, .bool b]) (.agg #[.int .i64 c, .bool d])).run Tryz.prog w = .ok (.bool (a == c && b == d)) w := by
  rw [run_eql_struct, run_equalIn_agg w 9999 _ _ _ underNS stoodNS, fieldsNS]
  rw [eqF w 9999 _ _ _ _ (.int .i64 a) (.int .i64 c) (a == c) (by decide) (part_i w _ _ _ rfl) (part_i w _ _ _ rfl) (run_equalIn_int w _ _ .i64 .i64 a c Tryz.underlying3)]
  rw [eqF w 9999 _ _ _ _ (.bool b) (.bool d) (b == d) (by decide) (part_b w _ _ _ rfl) (part_b w _ _ _ rfl) (run_equalIn_bool w _ _ b d Tryz.underlying4)]
  cases (a == c) <;> cases (b == d) <;> simp [Op.eqFields, Result.andThen]
theorem guardNS : Tryz.prog.eqGuardType Tryz.prog.depth 28 = false := by kernel_rfl
/-- the operation == on two states -/
theorem eql_ns {ops : Array Oper} {rest : List Oper} {o : Oper} {act : Act} {w : World} {Q : Exit → Act → World → Prop} (x y : Operand) (t : TypeId) (hgd : o.guard = none) (ho : o.op = .binOp .eql 28 x y t) (a c : Int) (b d : Bool) (hx : act.eval x = .agg #[.int .i64 a, .bool b]) (hy : act.eval y = .agg #[.int .i64 c, .bool d])
    {u : Bool} (hu : (a == c && b == d) = u) (hk : wpList Tryz.prog ops Q rest (act.put o.dst (.bool u)) w) : wpList Tryz.prog ops Q (o :: rest) act w := by
  subst hu
  refine wpList_plain hgd fun K hK => ?_
  unfold Oper.wp execOp
  have hg := run_eqGuard_agg (P := Tryz.prog) w .eql 28 x y #[.int .i64 a, .bool b] #[.int .i64 c, .bool d] guardNS
  simp only [ho, hx, hy, Sem.run_bind, hg, eq_ns, Result.andThen_ok]
  exact hK _ _ hk
end Go.Proofs.YtgflelodpcgmbaaGreatDoor
/- univocallaw25.feeds. -/
namespace Go.Proofs.YtgflelodpcgmbaaGreatDoor
open Go Go.RowKit Mem
set_option maxRecDepth 100000

/-- a conversion from a string to bytes as one step of a region that draws its order -/
theorem convD {P : Program} {ops : Array Oper} {o : Oper} {a : Act} {w : World} {K : Act → World → Prop} {Q : Exit → Act → World → Prop} {Z : Prop} {src dst e : TypeId} (x : Operand) {d : Nat} (hd : o.dst = some d) (hw : Region.wanted o (yielded ops a.tmps) = true) (ho : o.op = .convert src dst x)
    (hs : P.underlying src = some .string) (ht : P.underlying dst = some (.slice e)) (he : P.underlying e = some (.int .u8)) (bs : List UInt8) (hx : a.eval x = .string ⟨bs.toArray⟩)
    (h : ∀ p c W', Rd u8V W' (.slice p bs.length c) bs → Below w.heap.size w W' → K { a with tmps := a.tmps.setIfInBounds d (.slice p bs.length c) } W') : if Region.wanted o (yielded ops a.tmps) = true then Oper.wp P o a w K Q else Z := by
  have hrun := Lib.run_convert_string_bytes (P := P) w src dst e ⟨bs.toArray⟩ hs ht he
  have hz : (⟨bs.toArray⟩ : ByteArray).size = bs.length := by simp [ByteArray.size]
  rw [if_pos hw]
  unfold Oper.wp
  simp [execOp, ho, hx, hrun, Result.andThen]
  rw [hz]
  show K (a.put o.dst _) _
  rw [hd]
  refine h _ _ _ (.inr ⟨w.heap.size, 0, _, rfl, ?_, fun i hi => ?_, by rw [Lib.bytesWorld_size]; omega⟩) (below_bytes w e _)
  · exact Nat.le_trans (Nat.le_of_eq hz.symm) (by rw [← hz]; exact grownCap_ge _ _ _ _)
  · rw [Nat.zero_add, Lib.bytesWorld_cell w e _ i (by rw [hz]; exact hi), List.getElem?_eq_getElem hi]
    simp [u8V, List.getD, List.getElem?_eq_getElem hi]

set_option maxHeartbeats 16000000 in
theorem feeds1 (w : World) (at_ : Int) (r : Bool) (bs : List UInt8) (na : Int) (nr : Bool) (ws : List UInt8) (hok : exN.okAt at_ = true) (hbs : bs.length ≤ 140737488351232) (hres : exN.run ⟨at0 r at_, r, []⟩ bs = ⟨na, nr, ws⟩) :
    Calls Tryz.prog 29 #[.agg #[.int .i64 at_, .bool r], .string ⟨bs.toArray⟩, .agg #[.int .i64 na, .bool nr], .string ⟨ws.toArray⟩] w fun e w' => e = .returned (.bool true) ∧ Below w.heap.size w w' := by
  have HRES := Lib.hid hres
  have HOK := Lib.hid hok
  clear hres hok
  go_enter Tryz.func29, Tryz.ntmps29
  go_upto_region 1 with (fail)
  obtain ⟨W, hW, hB, hs, g0, g1⟩ : ∃ W, ((w.alloc (.cells #[.int .i64 at_, .bool r] 28)).alloc (.cells #[.int .i64 na, .bool nr] 28)) = W ∧ Below w.heap.size w W ∧ W.heap.size = w.heap.size + 2 ∧ Row oV W w.heap.size 28 [oi at_, ob r] ∧ Row oV W (w.heap.size + 1) 28 [oi na, ob nr] := by
    refine ⟨_, rfl, below_al (below_al (Below.refl _ _) (Nat.le_refl _) _) (Nat.le_refl _) _, by simp, ?_, ?_⟩
    all_goals repeat (first | (refine heap_new' _ _ _ ?_; (simp; done)) | (refine (Below.heap_alloc _ _ _ ?_).trans ?_; · (simp <;> omega)))
  rw [hW]
  clear hW
  replace hs : w.heap.size + 2 ≤ W.heap.size := by omega
  have HG := Lib.hid (And.intro g0 g1)
  clear g0 g1
  go_cut [9, 10] (fun s9 s10 wx => ∃ n9 po ko, s9 = .pointer (some ⟨n9, 0, none⟩) ∧ s10 = .slice po ws.length ko ∧ Row oV wx n9 28 [oi na, ob nr] ∧ Rd u8V wx (.slice po ws.length ko) ws ∧ Below W.heap.size W wx)
  · refine wp_region_held_drew (S := fun X => Below W.heap.size W X) rfl (Below.refl _ _).drew fun hS => ?_
    refine takeD (i := 1) (d := 13) (v := .agg #[.int .i64 at_, .bool r]) rfl rfl (by kernel_rfl) (by kernel_rfl) (by kernel_rfl) (fun c a w h => h) (yieldsIf_load (f := oV) (l := [oi at_, ob r]) aggNS (.tmp 4) rfl w.heap.size 0 rfl (fun W' h => (HG.out.1.below h (by omega)).at) rfl rfl) hS ?_
    simp only [List.setIfInBounds_toArray, List.set_cons_succ, List.set_cons_zero]
    refine takeD (i := 2) (d := 14) (v := .string ⟨bs.toArray⟩) rfl rfl (by kernel_rfl) (by kernel_rfl) (by kernel_rfl) (fun c a w h => h) (yieldsIf_op rfl (fun w => by first | rfl | kernel_rfl | (go_simp; done))) hS ?_
    simp only [List.setIfInBounds_toArray, List.set_cons_succ, List.set_cons_zero]
    refine wpAnyH_ready (rs := [0, 3, 8]) (by kernel_rfl) (by simp) (AllReadyH.cons rfl (fun K' hK => ?_) (AllReadyH.cons rfl (fun K' hK => ?_) (AllReadyH.cons rfl (fun K' hK => ?_) AllReadyH.nil)))
    · refine callD (d := 12) (g := 26) (args := #[]) rfl rfl (by first | kernel_rfl | (simp [execOp, resolve, invoke, Act.eval]) | go_simp) ?_
      refine (exampleN _).mono ?_
      rintro e X1 ⟨pc, pr, pe, rfl, hNz, hBx⟩
      replace hS := hS.trans (hBx.mono hS.size)
      refine ⟨_, rfl, hK.out _ _ hS fun _ => ?_⟩
      clear hK
      simp only [List.setIfInBounds_toArray, List.set_cons_succ, List.set_cons_zero]
      refine wpAnyH_ready (rs := [3, 8]) (by kernel_rfl) (by simp) (AllReadyH.cons rfl (fun K' hK => ?_) (AllReadyH.cons rfl (fun K' hK => ?_) AllReadyH.nil))
      · refine convD (.tmp 14) (d := 15) rfl rfl rfl Tryz.underlying9 Tryz.underlying29 Tryz.underlying5 bs rfl ?_
        intro pb cb X2 hRb hBx
        replace hNz := hNz.below hBx
        replace hS := hS.trans (hBx.mono hS.size)
        refine hK.out _ _ hS fun _ => ?_
        clear hK
        simp only [List.setIfInBounds_toArray, List.set_cons_succ, List.set_cons_zero]
        refine wpAnyH_ready (rs := [4, 8]) (by kernel_rfl) (by simp) (AllReadyH.cons rfl (fun K' hK => ?_) (AllReadyH.cons rfl (fun K' hK => ?_) AllReadyH.nil))
        · refine callD (d := 16) (g := 11) (args := #[.agg #[.slice pc exN.cls.length 2, .slice pr exN.rows.length 2, .slice pe exN.ends.length 2], .agg #[.int .i64 at_, .bool r], .slice pb bs.length cb]) rfl rfl (by first | kernel_rfl | (simp [execOp, resolve, invoke, Act.eval]) | go_simp) ?_
          refine (nFeed X2 exN pc pr pe pb 2 2 2 cb at_ r bs hNz hRb hbs exCov).mono ?_
          rintro e X3 ⟨hBx, ⟨hno, rfl⟩ | ⟨_, s, hsr, po, ko, rfl, hO⟩⟩
          · rw [HOK.out] at hno; cases hno
          have hse : s = ⟨na, nr, ws⟩ := hsr.out.trans HRES.out
          subst hse
          replace hS := hS.trans (hBx.mono hS.size)
          refine ⟨_, rfl, hK.out _ _ hS fun _ => ?_⟩
          clear hK
          simp only [List.setIfInBounds_toArray, List.set_cons_succ, List.set_cons_zero]
          refine takeD (i := 5) (d := 11) (v := .tuple #[.agg #[.int .i64 na, .bool nr], .slice po ws.length ko]) rfl rfl (by kernel_rfl) (by kernel_rfl) (by kernel_rfl) (fun c a w h => h) (yieldsIf_op rfl (fun w => by first | rfl | kernel_rfl | (go_simp; done))) hS ?_
          simp only [List.setIfInBounds_toArray, List.set_cons_succ, List.set_cons_zero]
          refine takeD (i := 6) (d := 17) (v := .agg #[.int .i64 na, .bool nr]) rfl rfl (by kernel_rfl) (by kernel_rfl) (by kernel_rfl) (fun c a w h => h) (yieldsIf_op rfl (fun w => by first | rfl | kernel_rfl | (go_simp; done))) hS ?_
          simp only [List.setIfInBounds_toArray, List.set_cons_succ, List.set_cons_zero]
          refine takeD (i := 7) (d := 18) (v := .slice po ws.length ko) rfl rfl (by kernel_rfl) (by kernel_rfl) (by kernel_rfl) (fun c a w h => h) (yieldsIf_op rfl (fun w => by first | rfl | kernel_rfl | (go_simp; done))) hS ?_
          simp only [List.setIfInBounds_toArray, List.set_cons_succ, List.set_cons_zero]
          refine wpAnyH_ready (rs := [8]) (by kernel_rfl) (by simp) (AllReadyH.cons rfl (fun K' hK => ?_) AllReadyH.nil)
          · have hz : Row oV (X3.alloc (.cells #[.int .i64 0, .bool false] 28)) X3.heap.size 28 [oi 0, ob false] := Row.new _ _ rfl
            have hBx := below_al (Below.refl X3.heap.size X3) (Nat.le_refl _) (.cells #[.int .i64 0, .bool false] 28)
            refine allocD (d := 9) (ob := .cells #[.int .i64 0, .bool false] 28) rfl rfl (by first | rfl | kernel_rfl) ?_
            generalize (X3.alloc (.cells #[.int .i64 0, .bool false] 28)) = X4 at *
            have hlo : W.heap.size ≤ X3.heap.size := hS.size
            have hOz : ∀ g, (Value.slice po ws.length ko).ownBlock = some g → g ≠ X3.heap.size := fun g hg e => by have h1 := (hO.lt g hg).2; omega
            replace hO := hO.below' hBx
            replace hS := hS.trans (hBx.mono hS.size)
            refine hK.out _ _ hS fun _ => ?_
            clear hK
            simp only [List.setIfInBounds_toArray, List.set_cons_succ, List.set_cons_zero]
            refine wpAnyH_ready (rs := [9]) (by kernel_rfl) (by simp) (AllReadyH.cons rfl (fun K' hK => ?_) AllReadyH.nil)
            refine storeD (f := oV) (l := [oi 0, ob false]) (l' := [oi na, ob nr]) (t := 28) (C := #[.int .i64 na, .bool nr]) aggNS (.tmp 9) (.tmp 17) rfl rfl rfl X3.heap.size rfl rfl rfl hz rfl oV_one ?_
            intro Y hsY hGY
            have hbl := hlo
            have hSY := hS.grown hGY hS.size (fun k e => by cases e; exact hbl)
            replace hO := hO.grown' hGY (fun g hg e => by injection e with e; exact hOz g hg e)
            refine hK.out _ _ hSY fun _ => ?_
            clear hK hS
            have hS := hSY
            refine takeD (i := 10) (d := 10) (v := .slice po ws.length ko) rfl rfl (by kernel_rfl) (by kernel_rfl) (by kernel_rfl) (fun c a w h => h) (yieldsIf_op rfl (fun w => by first | rfl | kernel_rfl | (go_simp; done))) hS ?_
            simp only [List.setIfInBounds_toArray, List.set_cons_succ, List.set_cons_zero]
            refine wpAnyH_done (by kernel_rfl) ?_ _
            go_wp2
            go_meet
            exact ⟨_, po, ko, rfl, rfl, hsY, hO.rd, hSY⟩
        · have hz : Row oV (X2.alloc (.cells #[.int .i64 0, .bool false] 28)) X2.heap.size 28 [oi 0, ob false] := Row.new _ _ rfl
          have hBx := below_al (Below.refl X2.heap.size X2) (Nat.le_refl _) (.cells #[.int .i64 0, .bool false] 28)
          refine allocD (d := 9) (ob := .cells #[.int .i64 0, .bool false] 28) rfl rfl (by first | rfl | kernel_rfl) ?_
          generalize (X2.alloc (.cells #[.int .i64 0, .bool false] 28)) = X5 at *
          have hlo : W.heap.size ≤ X2.heap.size := hS.size
          replace hNz := hNz.below hBx
          replace hRb := hRb.below hBx
          replace hS := hS.trans (hBx.mono hS.size)
          refine hK.out _ _ hS fun _ => ?_
          clear hK
          simp only [List.setIfInBounds_toArray, List.set_cons_succ, List.set_cons_zero]
          refine wpAnyH_ready (rs := [4]) (by kernel_rfl) (by simp) (AllReadyH.cons rfl (fun K' hK => ?_) AllReadyH.nil)
          · refine callD (d := 16) (g := 11) (args := #[.agg #[.slice pc exN.cls.length 2, .slice pr exN.rows.length 2, .slice pe exN.ends.length 2], .agg #[.int .i64 at_, .bool r], .slice pb bs.length cb]) rfl rfl (by first | kernel_rfl | (simp [execOp, resolve, invoke, Act.eval]) | go_simp) ?_
            refine (nFeed X5 exN pc pr pe pb 2 2 2 cb at_ r bs hNz hRb hbs exCov).mono ?_
            rintro e X6 ⟨hBx, ⟨hno, rfl⟩ | ⟨_, s, hsr, po, ko, rfl, hO⟩⟩
            · rw [HOK.out] at hno; cases hno
            have hse : s = ⟨na, nr, ws⟩ := hsr.out.trans HRES.out
            subst hse
            have hOz : ∀ g, (Value.slice po ws.length ko).ownBlock = some g → g ≠ X2.heap.size := fun g hg e => by have h1 := (hO.lt g hg).1; have h2 := hz.lt; omega
            replace hz := hz.below hBx hz.lt
            replace hS := hS.trans (hBx.mono hS.size)
            refine ⟨_, rfl, hK.out _ _ hS fun _ => ?_⟩
            clear hK
            simp only [List.setIfInBounds_toArray, List.set_cons_succ, List.set_cons_zero]
            refine takeD (i := 5) (d := 11) (v := .tuple #[.agg #[.int .i64 na, .bool nr], .slice po ws.length ko]) rfl rfl (by kernel_rfl) (by kernel_rfl) (by kernel_rfl) (fun c a w h => h) (yieldsIf_op rfl (fun w => by first | rfl | kernel_rfl | (go_simp; done))) hS ?_
            simp only [List.setIfInBounds_toArray, List.set_cons_succ, List.set_cons_zero]
            refine takeD (i := 6) (d := 17) (v := .agg #[.int .i64 na, .bool nr]) rfl rfl (by kernel_rfl) (by kernel_rfl) (by kernel_rfl) (fun c a w h => h) (yieldsIf_op rfl (fun w => by first | rfl | kernel_rfl | (go_simp; done))) hS ?_
            simp only [List.setIfInBounds_toArray, List.set_cons_succ, List.set_cons_zero]
            refine takeD (i := 7) (d := 18) (v := .slice po ws.length ko) rfl rfl (by kernel_rfl) (by kernel_rfl) (by kernel_rfl) (fun c a w h => h) (yieldsIf_op rfl (fun w => by first | rfl | kernel_rfl | (go_simp; done))) hS ?_
            simp only [List.setIfInBounds_toArray, List.set_cons_succ, List.set_cons_zero]
            refine wpAnyH_ready (rs := [9]) (by kernel_rfl) (by simp) (AllReadyH.cons rfl (fun K' hK => ?_) AllReadyH.nil)
            refine storeD (f := oV) (l := [oi 0, ob false]) (l' := [oi na, ob nr]) (t := 28) (C := #[.int .i64 na, .bool nr]) aggNS (.tmp 9) (.tmp 17) rfl rfl rfl X2.heap.size rfl rfl rfl hz rfl oV_one ?_
            intro Y hsY hGY
            have hbl := hlo
            have hSY := hS.grown hGY hS.size (fun k e => by cases e; exact hbl)
            replace hO := hO.grown' hGY (fun g hg e => by injection e with e; exact hOz g hg e)
            refine hK.out _ _ hSY fun _ => ?_
            clear hK hS
            have hS := hSY
            refine takeD (i := 10) (d := 10) (v := .slice po ws.length ko) rfl rfl (by kernel_rfl) (by kernel_rfl) (by kernel_rfl) (fun c a w h => h) (yieldsIf_op rfl (fun w => by first | rfl | kernel_rfl | (go_simp; done))) hS ?_
            simp only [List.setIfInBounds_toArray, List.set_cons_succ, List.set_cons_zero]
            refine wpAnyH_done (by kernel_rfl) ?_ _
            go_wp2
            go_meet
            exact ⟨_, po, ko, rfl, rfl, hsY, hO.rd, hSY⟩
      · have hz : Row oV (X1.alloc (.cells #[.int .i64 0, .bool false] 28)) X1.heap.size 28 [oi 0, ob false] := Row.new _ _ rfl
        have hBx := below_al (Below.refl X1.heap.size X1) (Nat.le_refl _) (.cells #[.int .i64 0, .bool false] 28)
        refine allocD (d := 9) (ob := .cells #[.int .i64 0, .bool false] 28) rfl rfl (by first | rfl | kernel_rfl) ?_
        generalize (X1.alloc (.cells #[.int .i64 0, .bool false] 28)) = X7 at *
        have hlo : W.heap.size ≤ X1.heap.size := hS.size
        replace hNz := hNz.below hBx
        replace hS := hS.trans (hBx.mono hS.size)
        refine hK.out _ _ hS fun _ => ?_
        clear hK
        simp only [List.setIfInBounds_toArray, List.set_cons_succ, List.set_cons_zero]
        refine wpAnyH_ready (rs := [3]) (by kernel_rfl) (by simp) (AllReadyH.cons rfl (fun K' hK => ?_) AllReadyH.nil)
        · refine convD (.tmp 14) (d := 15) rfl rfl rfl Tryz.underlying9 Tryz.underlying29 Tryz.underlying5 bs rfl ?_
          intro pb cb X8 hRb hBx
          replace hNz := hNz.below hBx
          replace hz := hz.below hBx hz.lt
          replace hS := hS.trans (hBx.mono hS.size)
          refine hK.out _ _ hS fun _ => ?_
          clear hK
          simp only [List.setIfInBounds_toArray, List.set_cons_succ, List.set_cons_zero]
          refine wpAnyH_ready (rs := [4]) (by kernel_rfl) (by simp) (AllReadyH.cons rfl (fun K' hK => ?_) AllReadyH.nil)
          · refine callD (d := 16) (g := 11) (args := #[.agg #[.slice pc exN.cls.length 2, .slice pr exN.rows.length 2, .slice pe exN.ends.length 2], .agg #[.int .i64 at_, .bool r], .slice pb bs.length cb]) rfl rfl (by first | kernel_rfl | (simp [execOp, resolve, invoke, Act.eval]) | go_simp) ?_
            refine (nFeed X8 exN pc pr pe pb 2 2 2 cb at_ r bs hNz hRb hbs exCov).mono ?_
            rintro e X9 ⟨hBx, ⟨hno, rfl⟩ | ⟨_, s, hsr, po, ko, rfl, hO⟩⟩
            · rw [HOK.out] at hno; cases hno
            have hse : s = ⟨na, nr, ws⟩ := hsr.out.trans HRES.out
            subst hse
            have hOz : ∀ g, (Value.slice po ws.length ko).ownBlock = some g → g ≠ X1.heap.size := fun g hg e => by have h1 := (hO.lt g hg).1; have h2 := hz.lt; omega
            replace hz := hz.below hBx hz.lt
            replace hS := hS.trans (hBx.mono hS.size)
            refine ⟨_, rfl, hK.out _ _ hS fun _ => ?_⟩
            clear hK
            simp only [List.setIfInBounds_toArray, List.set_cons_succ, List.set_cons_zero]
            refine takeD (i := 5) (d := 11) (v := .tuple #[.agg #[.int .i64 na, .bool nr], .slice po ws.length ko]) rfl rfl (by kernel_rfl) (by kernel_rfl) (by kernel_rfl) (fun c a w h => h) (yieldsIf_op rfl (fun w => by first | rfl | kernel_rfl | (go_simp; done))) hS ?_
            simp only [List.setIfInBounds_toArray, List.set_cons_succ, List.set_cons_zero]
            refine takeD (i := 6) (d := 17) (v := .agg #[.int .i64 na, .bool nr]) rfl rfl (by kernel_rfl) (by kernel_rfl) (by kernel_rfl) (fun c a w h => h) (yieldsIf_op rfl (fun w => by first | rfl | kernel_rfl | (go_simp; done))) hS ?_
            simp only [List.setIfInBounds_toArray, List.set_cons_succ, List.set_cons_zero]
            refine takeD (i := 7) (d := 18) (v := .slice po ws.length ko) rfl rfl (by kernel_rfl) (by kernel_rfl) (by kernel_rfl) (fun c a w h => h) (yieldsIf_op rfl (fun w => by first | rfl | kernel_rfl | (go_simp; done))) hS ?_
            simp only [List.setIfInBounds_toArray, List.set_cons_succ, List.set_cons_zero]
            refine wpAnyH_ready (rs := [9]) (by kernel_rfl) (by simp) (AllReadyH.cons rfl (fun K' hK => ?_) AllReadyH.nil)
            refine storeD (f := oV) (l := [oi 0, ob false]) (l' := [oi na, ob nr]) (t := 28) (C := #[.int .i64 na, .bool nr]) aggNS (.tmp 9) (.tmp 17) rfl rfl rfl X1.heap.size rfl rfl rfl hz rfl oV_one ?_
            intro Y hsY hGY
            have hbl := hlo
            have hSY := hS.grown hGY hS.size (fun k e => by cases e; exact hbl)
            replace hO := hO.grown' hGY (fun g hg e => by injection e with e; exact hOz g hg e)
            refine hK.out _ _ hSY fun _ => ?_
            clear hK hS
            have hS := hSY
            refine takeD (i := 10) (d := 10) (v := .slice po ws.length ko) rfl rfl (by kernel_rfl) (by kernel_rfl) (by kernel_rfl) (fun c a w h => h) (yieldsIf_op rfl (fun w => by first | rfl | kernel_rfl | (go_simp; done))) hS ?_
            simp only [List.setIfInBounds_toArray, List.set_cons_succ, List.set_cons_zero]
            refine wpAnyH_done (by kernel_rfl) ?_ _
            go_wp2
            go_meet
            exact ⟨_, po, ko, rfl, rfl, hsY, hO.rd, hSY⟩
    · refine convD (.tmp 14) (d := 15) rfl rfl rfl Tryz.underlying9 Tryz.underlying29 Tryz.underlying5 bs rfl ?_
      intro pb cb X10 hRb hBx
      replace hS := hS.trans (hBx.mono hS.size)
      refine hK.out _ _ hS fun _ => ?_
      clear hK
      simp only [List.setIfInBounds_toArray, List.set_cons_succ, List.set_cons_zero]
      refine wpAnyH_ready (rs := [0, 8]) (by kernel_rfl) (by simp) (AllReadyH.cons rfl (fun K' hK => ?_) (AllReadyH.cons rfl (fun K' hK => ?_) AllReadyH.nil))
      · refine callD (d := 12) (g := 26) (args := #[]) rfl rfl (by first | kernel_rfl | (simp [execOp, resolve, invoke, Act.eval]) | go_simp) ?_
        refine (exampleN _).mono ?_
        rintro e X11 ⟨pc, pr, pe, rfl, hNz, hBx⟩
        replace hRb := hRb.below hBx
        replace hS := hS.trans (hBx.mono hS.size)
        refine ⟨_, rfl, hK.out _ _ hS fun _ => ?_⟩
        clear hK
        simp only [List.setIfInBounds_toArray, List.set_cons_succ, List.set_cons_zero]
        refine wpAnyH_ready (rs := [4, 8]) (by kernel_rfl) (by simp) (AllReadyH.cons rfl (fun K' hK => ?_) (AllReadyH.cons rfl (fun K' hK => ?_) AllReadyH.nil))
        · refine callD (d := 16) (g := 11) (args := #[.agg #[.slice pc exN.cls.length 2, .slice pr exN.rows.length 2, .slice pe exN.ends.length 2], .agg #[.int .i64 at_, .bool r], .slice pb bs.length cb]) rfl rfl (by first | kernel_rfl | (simp [execOp, resolve, invoke, Act.eval]) | go_simp) ?_
          refine (nFeed X11 exN pc pr pe pb 2 2 2 cb at_ r bs hNz hRb hbs exCov).mono ?_
          rintro e X12 ⟨hBx, ⟨hno, rfl⟩ | ⟨_, s, hsr, po, ko, rfl, hO⟩⟩
          · rw [HOK.out] at hno; cases hno
          have hse : s = ⟨na, nr, ws⟩ := hsr.out.trans HRES.out
          subst hse
          replace hS := hS.trans (hBx.mono hS.size)
          refine ⟨_, rfl, hK.out _ _ hS fun _ => ?_⟩
          clear hK
          simp only [List.setIfInBounds_toArray, List.set_cons_succ, List.set_cons_zero]
          refine takeD (i := 5) (d := 11) (v := .tuple #[.agg #[.int .i64 na, .bool nr], .slice po ws.length ko]) rfl rfl (by kernel_rfl) (by kernel_rfl) (by kernel_rfl) (fun c a w h => h) (yieldsIf_op rfl (fun w => by first | rfl | kernel_rfl | (go_simp; done))) hS ?_
          simp only [List.setIfInBounds_toArray, List.set_cons_succ, List.set_cons_zero]
          refine takeD (i := 6) (d := 17) (v := .agg #[.int .i64 na, .bool nr]) rfl rfl (by kernel_rfl) (by kernel_rfl) (by kernel_rfl) (fun c a w h => h) (yieldsIf_op rfl (fun w => by first | rfl | kernel_rfl | (go_simp; done))) hS ?_
          simp only [List.setIfInBounds_toArray, List.set_cons_succ, List.set_cons_zero]
          refine takeD (i := 7) (d := 18) (v := .slice po ws.length ko) rfl rfl (by kernel_rfl) (by kernel_rfl) (by kernel_rfl) (fun c a w h => h) (yieldsIf_op rfl (fun w => by first | rfl | kernel_rfl | (go_simp; done))) hS ?_
          simp only [List.setIfInBounds_toArray, List.set_cons_succ, List.set_cons_zero]
          refine wpAnyH_ready (rs := [8]) (by kernel_rfl) (by simp) (AllReadyH.cons rfl (fun K' hK => ?_) AllReadyH.nil)
          · have hz : Row oV (X12.alloc (.cells #[.int .i64 0, .bool false] 28)) X12.heap.size 28 [oi 0, ob false] := Row.new _ _ rfl
            have hBx := below_al (Below.refl X12.heap.size X12) (Nat.le_refl _) (.cells #[.int .i64 0, .bool false] 28)
            refine allocD (d := 9) (ob := .cells #[.int .i64 0, .bool false] 28) rfl rfl (by first | rfl | kernel_rfl) ?_
            generalize (X12.alloc (.cells #[.int .i64 0, .bool false] 28)) = X13 at *
            have hlo : W.heap.size ≤ X12.heap.size := hS.size
            have hOz : ∀ g, (Value.slice po ws.length ko).ownBlock = some g → g ≠ X12.heap.size := fun g hg e => by have h1 := (hO.lt g hg).2; omega
            replace hO := hO.below' hBx
            replace hS := hS.trans (hBx.mono hS.size)
            refine hK.out _ _ hS fun _ => ?_
            clear hK
            simp only [List.setIfInBounds_toArray, List.set_cons_succ, List.set_cons_zero]
            refine wpAnyH_ready (rs := [9]) (by kernel_rfl) (by simp) (AllReadyH.cons rfl (fun K' hK => ?_) AllReadyH.nil)
            refine storeD (f := oV) (l := [oi 0, ob false]) (l' := [oi na, ob nr]) (t := 28) (C := #[.int .i64 na, .bool nr]) aggNS (.tmp 9) (.tmp 17) rfl rfl rfl X12.heap.size rfl rfl rfl hz rfl oV_one ?_
            intro Y hsY hGY
            have hbl := hlo
            have hSY := hS.grown hGY hS.size (fun k e => by cases e; exact hbl)
            replace hO := hO.grown' hGY (fun g hg e => by injection e with e; exact hOz g hg e)
            refine hK.out _ _ hSY fun _ => ?_
            clear hK hS
            have hS := hSY
            refine takeD (i := 10) (d := 10) (v := .slice po ws.length ko) rfl rfl (by kernel_rfl) (by kernel_rfl) (by kernel_rfl) (fun c a w h => h) (yieldsIf_op rfl (fun w => by first | rfl | kernel_rfl | (go_simp; done))) hS ?_
            simp only [List.setIfInBounds_toArray, List.set_cons_succ, List.set_cons_zero]
            refine wpAnyH_done (by kernel_rfl) ?_ _
            go_wp2
            go_meet
            exact ⟨_, po, ko, rfl, rfl, hsY, hO.rd, hSY⟩
        · have hz : Row oV (X11.alloc (.cells #[.int .i64 0, .bool false] 28)) X11.heap.size 28 [oi 0, ob false] := Row.new _ _ rfl
          have hBx := below_al (Below.refl X11.heap.size X11) (Nat.le_refl _) (.cells #[.int .i64 0, .bool false] 28)
          refine allocD (d := 9) (ob := .cells #[.int .i64 0, .bool false] 28) rfl rfl (by first | rfl | kernel_rfl) ?_
          generalize (X11.alloc (.cells #[.int .i64 0, .bool false] 28)) = X14 at *
          have hlo : W.heap.size ≤ X11.heap.size := hS.size
          replace hNz := hNz.below hBx
          replace hRb := hRb.below hBx
          replace hS := hS.trans (hBx.mono hS.size)
          refine hK.out _ _ hS fun _ => ?_
          clear hK
          simp only [List.setIfInBounds_toArray, List.set_cons_succ, List.set_cons_zero]
          refine wpAnyH_ready (rs := [4]) (by kernel_rfl) (by simp) (AllReadyH.cons rfl (fun K' hK => ?_) AllReadyH.nil)
          · refine callD (d := 16) (g := 11) (args := #[.agg #[.slice pc exN.cls.length 2, .slice pr exN.rows.length 2, .slice pe exN.ends.length 2], .agg #[.int .i64 at_, .bool r], .slice pb bs.length cb]) rfl rfl (by first | kernel_rfl | (simp [execOp, resolve, invoke, Act.eval]) | go_simp) ?_
            refine (nFeed X14 exN pc pr pe pb 2 2 2 cb at_ r bs hNz hRb hbs exCov).mono ?_
            rintro e X15 ⟨hBx, ⟨hno, rfl⟩ | ⟨_, s, hsr, po, ko, rfl, hO⟩⟩
            · rw [HOK.out] at hno; cases hno
            have hse : s = ⟨na, nr, ws⟩ := hsr.out.trans HRES.out
            subst hse
            have hOz : ∀ g, (Value.slice po ws.length ko).ownBlock = some g → g ≠ X11.heap.size := fun g hg e => by have h1 := (hO.lt g hg).1; have h2 := hz.lt; omega
            replace hz := hz.below hBx hz.lt
            replace hS := hS.trans (hBx.mono hS.size)
            refine ⟨_, rfl, hK.out _ _ hS fun _ => ?_⟩
            clear hK
            simp only [List.setIfInBounds_toArray, List.set_cons_succ, List.set_cons_zero]
            refine takeD (i := 5) (d := 11) (v := .tuple #[.agg #[.int .i64 na, .bool nr], .slice po ws.length ko]) rfl rfl (by kernel_rfl) (by kernel_rfl) (by kernel_rfl) (fun c a w h => h) (yieldsIf_op rfl (fun w => by first | rfl | kernel_rfl | (go_simp; done))) hS ?_
            simp only [List.setIfInBounds_toArray, List.set_cons_succ, List.set_cons_zero]
            refine takeD (i := 6) (d := 17) (v := .agg #[.int .i64 na, .bool nr]) rfl rfl (by kernel_rfl) (by kernel_rfl) (by kernel_rfl) (fun c a w h => h) (yieldsIf_op rfl (fun w => by first | rfl | kernel_rfl | (go_simp; done))) hS ?_
            simp only [List.setIfInBounds_toArray, List.set_cons_succ, List.set_cons_zero]
            refine takeD (i := 7) (d := 18) (v := .slice po ws.length ko) rfl rfl (by kernel_rfl) (by kernel_rfl) (by kernel_rfl) (fun c a w h => h) (yieldsIf_op rfl (fun w => by first | rfl | kernel_rfl | (go_simp; done))) hS ?_
            simp only [List.setIfInBounds_toArray, List.set_cons_succ, List.set_cons_zero]
            refine wpAnyH_ready (rs := [9]) (by kernel_rfl) (by simp) (AllReadyH.cons rfl (fun K' hK => ?_) AllReadyH.nil)
            refine storeD (f := oV) (l := [oi 0, ob false]) (l' := [oi na, ob nr]) (t := 28) (C := #[.int .i64 na, .bool nr]) aggNS (.tmp 9) (.tmp 17) rfl rfl rfl X11.heap.size rfl rfl rfl hz rfl oV_one ?_
            intro Y hsY hGY
            have hbl := hlo
            have hSY := hS.grown hGY hS.size (fun k e => by cases e; exact hbl)
            replace hO := hO.grown' hGY (fun g hg e => by injection e with e; exact hOz g hg e)
            refine hK.out _ _ hSY fun _ => ?_
            clear hK hS
            have hS := hSY
            refine takeD (i := 10) (d := 10) (v := .slice po ws.length ko) rfl rfl (by kernel_rfl) (by kernel_rfl) (by kernel_rfl) (fun c a w h => h) (yieldsIf_op rfl (fun w => by first | rfl | kernel_rfl | (go_simp; done))) hS ?_
            simp only [List.setIfInBounds_toArray, List.set_cons_succ, List.set_cons_zero]
            refine wpAnyH_done (by kernel_rfl) ?_ _
            go_wp2
            go_meet
            exact ⟨_, po, ko, rfl, rfl, hsY, hO.rd, hSY⟩
      · have hz : Row oV (X10.alloc (.cells #[.int .i64 0, .bool false] 28)) X10.heap.size 28 [oi 0, ob false] := Row.new _ _ rfl
        have hBx := below_al (Below.refl X10.heap.size X10) (Nat.le_refl _) (.cells #[.int .i64 0, .bool false] 28)
        refine allocD (d := 9) (ob := .cells #[.int .i64 0, .bool false] 28) rfl rfl (by first | rfl | kernel_rfl) ?_
        generalize (X10.alloc (.cells #[.int .i64 0, .bool false] 28)) = X16 at *
        have hlo : W.heap.size ≤ X10.heap.size := hS.size
        replace hRb := hRb.below hBx
        replace hS := hS.trans (hBx.mono hS.size)
        refine hK.out _ _ hS fun _ => ?_
        clear hK
        simp only [List.setIfInBounds_toArray, List.set_cons_succ, List.set_cons_zero]
        refine wpAnyH_ready (rs := [0]) (by kernel_rfl) (by simp) (AllReadyH.cons rfl (fun K' hK => ?_) AllReadyH.nil)
        · refine callD (d := 12) (g := 26) (args := #[]) rfl rfl (by first | kernel_rfl | (simp [execOp, resolve, invoke, Act.eval]) | go_simp) ?_
          refine (exampleN _).mono ?_
          rintro e X17 ⟨pc, pr, pe, rfl, hNz, hBx⟩
          replace hRb := hRb.below hBx
          replace hz := hz.below hBx hz.lt
          replace hS := hS.trans (hBx.mono hS.size)
          refine ⟨_, rfl, hK.out _ _ hS fun _ => ?_⟩
          clear hK
          simp only [List.setIfInBounds_toArray, List.set_cons_succ, List.set_cons_zero]
          refine wpAnyH_ready (rs := [4]) (by kernel_rfl) (by simp) (AllReadyH.cons rfl (fun K' hK => ?_) AllReadyH.nil)
          · refine callD (d := 16) (g := 11) (args := #[.agg #[.slice pc exN.cls.length 2, .slice pr exN.rows.length 2, .slice pe exN.ends.length 2], .agg #[.int .i64 at_, .bool r], .slice pb bs.length cb]) rfl rfl (by first | kernel_rfl | (simp [execOp, resolve, invoke, Act.eval]) | go_simp) ?_
            refine (nFeed X17 exN pc pr pe pb 2 2 2 cb at_ r bs hNz hRb hbs exCov).mono ?_
            rintro e X18 ⟨hBx, ⟨hno, rfl⟩ | ⟨_, s, hsr, po, ko, rfl, hO⟩⟩
            · rw [HOK.out] at hno; cases hno
            have hse : s = ⟨na, nr, ws⟩ := hsr.out.trans HRES.out
            subst hse
            have hOz : ∀ g, (Value.slice po ws.length ko).ownBlock = some g → g ≠ X10.heap.size := fun g hg e => by have h1 := (hO.lt g hg).1; have h2 := hz.lt; omega
            replace hz := hz.below hBx hz.lt
            replace hS := hS.trans (hBx.mono hS.size)
            refine ⟨_, rfl, hK.out _ _ hS fun _ => ?_⟩
            clear hK
            simp only [List.setIfInBounds_toArray, List.set_cons_succ, List.set_cons_zero]
            refine takeD (i := 5) (d := 11) (v := .tuple #[.agg #[.int .i64 na, .bool nr], .slice po ws.length ko]) rfl rfl (by kernel_rfl) (by kernel_rfl) (by kernel_rfl) (fun c a w h => h) (yieldsIf_op rfl (fun w => by first | rfl | kernel_rfl | (go_simp; done))) hS ?_
            simp only [List.setIfInBounds_toArray, List.set_cons_succ, List.set_cons_zero]
            refine takeD (i := 6) (d := 17) (v := .agg #[.int .i64 na, .bool nr]) rfl rfl (by kernel_rfl) (by kernel_rfl) (by kernel_rfl) (fun c a w h => h) (yieldsIf_op rfl (fun w => by first | rfl | kernel_rfl | (go_simp; done))) hS ?_
            simp only [List.setIfInBounds_toArray, List.set_cons_succ, List.set_cons_zero]
            refine takeD (i := 7) (d := 18) (v := .slice po ws.length ko) rfl rfl (by kernel_rfl) (by kernel_rfl) (by kernel_rfl) (fun c a w h => h) (yieldsIf_op rfl (fun w => by first | rfl | kernel_rfl | (go_simp; done))) hS ?_
            simp only [List.setIfInBounds_toArray, List.set_cons_succ, List.set_cons_zero]
            refine wpAnyH_ready (rs := [9]) (by kernel_rfl) (by simp) (AllReadyH.cons rfl (fun K' hK => ?_) AllReadyH.nil)
            refine storeD (f := oV) (l := [oi 0, ob false]) (l' := [oi na, ob nr]) (t := 28) (C := #[.int .i64 na, .bool nr]) aggNS (.tmp 9) (.tmp 17) rfl rfl rfl X10.heap.size rfl rfl rfl hz rfl oV_one ?_
            intro Y hsY hGY
            have hbl := hlo
            have hSY := hS.grown hGY hS.size (fun k e => by cases e; exact hbl)
            replace hO := hO.grown' hGY (fun g hg e => by injection e with e; exact hOz g hg e)
            refine hK.out _ _ hSY fun _ => ?_
            clear hK hS
            have hS := hSY
            refine takeD (i := 10) (d := 10) (v := .slice po ws.length ko) rfl rfl (by kernel_rfl) (by kernel_rfl) (by kernel_rfl) (fun c a w h => h) (yieldsIf_op rfl (fun w => by first | rfl | kernel_rfl | (go_simp; done))) hS ?_
            simp only [List.setIfInBounds_toArray, List.set_cons_succ, List.set_cons_zero]
            refine wpAnyH_done (by kernel_rfl) ?_ _
            go_wp2
            go_meet
            exact ⟨_, po, ko, rfl, rfl, hsY, hO.rd, hSY⟩
    · have hz : Row oV (W.drew.alloc (.cells #[.int .i64 0, .bool false] 28)) W.drew.heap.size 28 [oi 0, ob false] := Row.new _ _ rfl
      have hBx := below_al (Below.refl W.drew.heap.size W.drew) (Nat.le_refl _) (.cells #[.int .i64 0, .bool false] 28)
      refine allocD (d := 9) (ob := .cells #[.int .i64 0, .bool false] 28) rfl rfl (by first | rfl | kernel_rfl) ?_
      generalize (W.drew.alloc (.cells #[.int .i64 0, .bool false] 28)) = X19 at *
      have hlo : W.heap.size ≤ W.drew.heap.size := hS.size
      replace hS := hS.trans (hBx.mono hS.size)
      refine hK.out _ _ hS fun _ => ?_
      clear hK
      simp only [List.setIfInBounds_toArray, List.set_cons_succ, List.set_cons_zero]
      refine wpAnyH_ready (rs := [0, 3]) (by kernel_rfl) (by simp) (AllReadyH.cons rfl (fun K' hK => ?_) (AllReadyH.cons rfl (fun K' hK => ?_) AllReadyH.nil))
      · refine callD (d := 12) (g := 26) (args := #[]) rfl rfl (by first | kernel_rfl | (simp [execOp, resolve, invoke, Act.eval]) | go_simp) ?_
        refine (exampleN _).mono ?_
        rintro e X20 ⟨pc, pr, pe, rfl, hNz, hBx⟩
        replace hz := hz.below hBx hz.lt
        replace hS := hS.trans (hBx.mono hS.size)
        refine ⟨_, rfl, hK.out _ _ hS fun _ => ?_⟩
        clear hK
        simp only [List.setIfInBounds_toArray, List.set_cons_succ, List.set_cons_zero]
        refine wpAnyH_ready (rs := [3]) (by kernel_rfl) (by simp) (AllReadyH.cons rfl (fun K' hK => ?_) AllReadyH.nil)
        · refine convD (.tmp 14) (d := 15) rfl rfl rfl Tryz.underlying9 Tryz.underlying29 Tryz.underlying5 bs rfl ?_
          intro pb cb X21 hRb hBx
          replace hNz := hNz.below hBx
          replace hz := hz.below hBx hz.lt
          replace hS := hS.trans (hBx.mono hS.size)
          refine hK.out _ _ hS fun _ => ?_
          clear hK
          simp only [List.setIfInBounds_toArray, List.set_cons_succ, List.set_cons_zero]
          refine wpAnyH_ready (rs := [4]) (by kernel_rfl) (by simp) (AllReadyH.cons rfl (fun K' hK => ?_) AllReadyH.nil)
          · refine callD (d := 16) (g := 11) (args := #[.agg #[.slice pc exN.cls.length 2, .slice pr exN.rows.length 2, .slice pe exN.ends.length 2], .agg #[.int .i64 at_, .bool r], .slice pb bs.length cb]) rfl rfl (by first | kernel_rfl | (simp [execOp, resolve, invoke, Act.eval]) | go_simp) ?_
            refine (nFeed X21 exN pc pr pe pb 2 2 2 cb at_ r bs hNz hRb hbs exCov).mono ?_
            rintro e X22 ⟨hBx, ⟨hno, rfl⟩ | ⟨_, s, hsr, po, ko, rfl, hO⟩⟩
            · rw [HOK.out] at hno; cases hno
            have hse : s = ⟨na, nr, ws⟩ := hsr.out.trans HRES.out
            subst hse
            have hOz : ∀ g, (Value.slice po ws.length ko).ownBlock = some g → g ≠ W.drew.heap.size := fun g hg e => by have h1 := (hO.lt g hg).1; have h2 := hz.lt; omega
            replace hz := hz.below hBx hz.lt
            replace hS := hS.trans (hBx.mono hS.size)
            refine ⟨_, rfl, hK.out _ _ hS fun _ => ?_⟩
            clear hK
            simp only [List.setIfInBounds_toArray, List.set_cons_succ, List.set_cons_zero]
            refine takeD (i := 5) (d := 11) (v := .tuple #[.agg #[.int .i64 na, .bool nr], .slice po ws.length ko]) rfl rfl (by kernel_rfl) (by kernel_rfl) (by kernel_rfl) (fun c a w h => h) (yieldsIf_op rfl (fun w => by first | rfl | kernel_rfl | (go_simp; done))) hS ?_
            simp only [List.setIfInBounds_toArray, List.set_cons_succ, List.set_cons_zero]
            refine takeD (i := 6) (d := 17) (v := .agg #[.int .i64 na, .bool nr]) rfl rfl (by kernel_rfl) (by kernel_rfl) (by kernel_rfl) (fun c a w h => h) (yieldsIf_op rfl (fun w => by first | rfl | kernel_rfl | (go_simp; done))) hS ?_
            simp only [List.setIfInBounds_toArray, List.set_cons_succ, List.set_cons_zero]
            refine takeD (i := 7) (d := 18) (v := .slice po ws.length ko) rfl rfl (by kernel_rfl) (by kernel_rfl) (by kernel_rfl) (fun c a w h => h) (yieldsIf_op rfl (fun w => by first | rfl | kernel_rfl | (go_simp; done))) hS ?_
            simp only [List.setIfInBounds_toArray, List.set_cons_succ, List.set_cons_zero]
            refine wpAnyH_ready (rs := [9]) (by kernel_rfl) (by simp) (AllReadyH.cons rfl (fun K' hK => ?_) AllReadyH.nil)
            refine storeD (f := oV) (l := [oi 0, ob false]) (l' := [oi na, ob nr]) (t := 28) (C := #[.int .i64 na, .bool nr]) aggNS (.tmp 9) (.tmp 17) rfl rfl rfl W.drew.heap.size rfl rfl rfl hz rfl oV_one ?_
            intro Y hsY hGY
            have hbl := hlo
            have hSY := hS.grown hGY hS.size (fun k e => by cases e; exact hbl)
            replace hO := hO.grown' hGY (fun g hg e => by injection e with e; exact hOz g hg e)
            refine hK.out _ _ hSY fun _ => ?_
            clear hK hS
            have hS := hSY
            refine takeD (i := 10) (d := 10) (v := .slice po ws.length ko) rfl rfl (by kernel_rfl) (by kernel_rfl) (by kernel_rfl) (fun c a w h => h) (yieldsIf_op rfl (fun w => by first | rfl | kernel_rfl | (go_simp; done))) hS ?_
            simp only [List.setIfInBounds_toArray, List.set_cons_succ, List.set_cons_zero]
            refine wpAnyH_done (by kernel_rfl) ?_ _
            go_wp2
            go_meet
            exact ⟨_, po, ko, rfl, rfl, hsY, hO.rd, hSY⟩
      · refine convD (.tmp 14) (d := 15) rfl rfl rfl Tryz.underlying9 Tryz.underlying29 Tryz.underlying5 bs rfl ?_
        intro pb cb X23 hRb hBx
        replace hz := hz.below hBx hz.lt
        replace hS := hS.trans (hBx.mono hS.size)
        refine hK.out _ _ hS fun _ => ?_
        clear hK
        simp only [List.setIfInBounds_toArray, List.set_cons_succ, List.set_cons_zero]
        refine wpAnyH_ready (rs := [0]) (by kernel_rfl) (by simp) (AllReadyH.cons rfl (fun K' hK => ?_) AllReadyH.nil)
        · refine callD (d := 12) (g := 26) (args := #[]) rfl rfl (by first | kernel_rfl | (simp [execOp, resolve, invoke, Act.eval]) | go_simp) ?_
          refine (exampleN _).mono ?_
          rintro e X24 ⟨pc, pr, pe, rfl, hNz, hBx⟩
          replace hRb := hRb.below hBx
          replace hz := hz.below hBx hz.lt
          replace hS := hS.trans (hBx.mono hS.size)
          refine ⟨_, rfl, hK.out _ _ hS fun _ => ?_⟩
          clear hK
          simp only [List.setIfInBounds_toArray, List.set_cons_succ, List.set_cons_zero]
          refine wpAnyH_ready (rs := [4]) (by kernel_rfl) (by simp) (AllReadyH.cons rfl (fun K' hK => ?_) AllReadyH.nil)
          · refine callD (d := 16) (g := 11) (args := #[.agg #[.slice pc exN.cls.length 2, .slice pr exN.rows.length 2, .slice pe exN.ends.length 2], .agg #[.int .i64 at_, .bool r], .slice pb bs.length cb]) rfl rfl (by first | kernel_rfl | (simp [execOp, resolve, invoke, Act.eval]) | go_simp) ?_
            refine (nFeed X24 exN pc pr pe pb 2 2 2 cb at_ r bs hNz hRb hbs exCov).mono ?_
            rintro e X25 ⟨hBx, ⟨hno, rfl⟩ | ⟨_, s, hsr, po, ko, rfl, hO⟩⟩
            · rw [HOK.out] at hno; cases hno
            have hse : s = ⟨na, nr, ws⟩ := hsr.out.trans HRES.out
            subst hse
            have hOz : ∀ g, (Value.slice po ws.length ko).ownBlock = some g → g ≠ W.drew.heap.size := fun g hg e => by have h1 := (hO.lt g hg).1; have h2 := hz.lt; omega
            replace hz := hz.below hBx hz.lt
            replace hS := hS.trans (hBx.mono hS.size)
            refine ⟨_, rfl, hK.out _ _ hS fun _ => ?_⟩
            clear hK
            simp only [List.setIfInBounds_toArray, List.set_cons_succ, List.set_cons_zero]
            refine takeD (i := 5) (d := 11) (v := .tuple #[.agg #[.int .i64 na, .bool nr], .slice po ws.length ko]) rfl rfl (by kernel_rfl) (by kernel_rfl) (by kernel_rfl) (fun c a w h => h) (yieldsIf_op rfl (fun w => by first | rfl | kernel_rfl | (go_simp; done))) hS ?_
            simp only [List.setIfInBounds_toArray, List.set_cons_succ, List.set_cons_zero]
            refine takeD (i := 6) (d := 17) (v := .agg #[.int .i64 na, .bool nr]) rfl rfl (by kernel_rfl) (by kernel_rfl) (by kernel_rfl) (fun c a w h => h) (yieldsIf_op rfl (fun w => by first | rfl | kernel_rfl | (go_simp; done))) hS ?_
            simp only [List.setIfInBounds_toArray, List.set_cons_succ, List.set_cons_zero]
            refine takeD (i := 7) (d := 18) (v := .slice po ws.length ko) rfl rfl (by kernel_rfl) (by kernel_rfl) (by kernel_rfl) (fun c a w h => h) (yieldsIf_op rfl (fun w => by first | rfl | kernel_rfl | (go_simp; done))) hS ?_
            simp only [List.setIfInBounds_toArray, List.set_cons_succ, List.set_cons_zero]
            refine wpAnyH_ready (rs := [9]) (by kernel_rfl) (by simp) (AllReadyH.cons rfl (fun K' hK => ?_) AllReadyH.nil)
            refine storeD (f := oV) (l := [oi 0, ob false]) (l' := [oi na, ob nr]) (t := 28) (C := #[.int .i64 na, .bool nr]) aggNS (.tmp 9) (.tmp 17) rfl rfl rfl W.drew.heap.size rfl rfl rfl hz rfl oV_one ?_
            intro Y hsY hGY
            have hbl := hlo
            have hSY := hS.grown hGY hS.size (fun k e => by cases e; exact hbl)
            replace hO := hO.grown' hGY (fun g hg e => by injection e with e; exact hOz g hg e)
            refine hK.out _ _ hSY fun _ => ?_
            clear hK hS
            have hS := hSY
            refine takeD (i := 10) (d := 10) (v := .slice po ws.length ko) rfl rfl (by kernel_rfl) (by kernel_rfl) (by kernel_rfl) (fun c a w h => h) (yieldsIf_op rfl (fun w => by first | rfl | kernel_rfl | (go_simp; done))) hS ?_
            simp only [List.setIfInBounds_toArray, List.set_cons_succ, List.set_cons_zero]
            refine wpAnyH_done (by kernel_rfl) ?_ _
            go_wp2
            go_meet
            exact ⟨_, po, ko, rfl, rfl, hsY, hO.rd, hSY⟩
  obtain ⟨n9, po, ko, rfl, rfl, hrow, hrd, hBx⟩ := hcut
  have h6 := HG.out.2.below hBx (by omega)
  have hs2 : ((⟨ws.toArray⟩ : ByteArray).toList == (⟨ws.toArray⟩ : ByteArray).toList) = true := by simp
  have hBf := hB.trans (hBx.mono hB.size)
  go_wp2_with (first
    | ((with_reducible refine load_agg (f := oV) (l := [oi na, ob nr]) (C := #[.int .i64 na, .bool nr]) aggNS (.tmp 9) ?_ ?_ n9 0 ?_ hrow.at rfl ?_); rfl; rfl; rfl)
    | ((with_reducible refine load_agg (f := oV) (l := [oi na, ob nr]) (C := #[.int .i64 na, .bool nr]) aggNS (.tmp 6) ?_ ?_ (w.heap.size + 1) 0 ?_ h6.at rfl ?_); rfl; rfl; rfl)
    | ((with_reducible refine eql_ns (u := true) (.tmp 19) (.tmp 20) 28 ?_ ?_ na na nr nr ?_ ?_ ?_ ?_); rfl; rfl; rfl; rfl; (simp; done))
    | ((with_reducible refine convert_w (s := ⟨ws.toArray⟩) (.tmp 23) ?_ ?_ Tryz.underlying29 Tryz.underlying5 Tryz.underlying9 ?_ hrd rfl ?_); rfl; rfl; rfl))
  go_ret
  exact ⟨rfl, hBf⟩
end Go.Proofs.YtgflelodpcgmbaaGreatDoor
/- '[]byte' of a literal: a row of bytes and its mark. -/
namespace Go.Proofs.YtgflelodpcgmbaaGreatDoor
open Go Go.RowKit Mem
set_option maxRecDepth 100000

namespace Mem
theorem freeze_cell (w : World) (a : Addr) (n : Nat) (p : Addr) : (w.freeze a n).cell? p = w.cell? p := by
  unfold World.freeze
  split
  · rfl
  · unfold World.cell?
    simp only [Array.getElem?_modify]
    by_cases h : a.block = p.block
    · rw [if_pos h]
      cases w.heap[p.block]? with
      | none => rfl
      | some o => cases o <;> rfl
    · rw [if_neg h]
theorem freeze_size (w : World) (a : Addr) (n : Nat) : (w.freeze a n).heap.size = w.heap.size := by
  unfold World.freeze
  split
  · rfl
  · simp
theorem freeze_below {B : Nat} (w : World) {a : Addr} (n : Nat) (h : B ≤ a.block) : Below B w (w.freeze a n) := by
  unfold World.freeze
  split
  · exact Below.refl B w
  · exact ⟨rfl, rfl, rfl, by simp, fun k hk => by
      simp only [Array.getElem?_modify]
      rw [if_neg (by omega)]⟩
theorem freeze_rd {α : Type} {f : α → Value} {w : World} {v : Value} {l : List α} (a : Addr) (n : Nat) (h : Rd f w v l) : Rd f (w.freeze a n) v l := by
  rcases h with hn | ⟨b, o, cap, rfl, hc, ha, hlt⟩
  · exact .inl hn
  · exact .inr ⟨b, o, cap, rfl, hc, fun i hi => (freeze_cell w a n _).trans (ha i hi), by rw [freeze_size]; exact hlt⟩
end Mem
theorem FP.freeze {w : World} {v : Value} {nm : ByteArray} (a : Addr) (n : Nat) (h : FP w v nm) : FP (w.freeze a n) v nm := by
  obtain ⟨sb, so, sc, bb, bo, bc, ib, io, ic, rfl, hcap, ⟨h1, l1⟩, ⟨h2, l2⟩, h3, l3⟩ := h
  refine ⟨sb, so, sc, bb, bo, bc, ib, io, ic, rfl, hcap, ⟨fun i hi => (freeze_cell w a n _).trans (h1 i hi), ?_⟩, ⟨(freeze_cell w a n _).trans h2, ?_⟩, (freeze_cell w a n _).trans h3, ?_⟩ <;> (rw [freeze_size]; assumption)

namespace Mem
variable {P : Program} {ops : Array Oper} {rest : List Oper} {o : Oper} {a : Act} {Q : Exit → Act → World → Prop} {w : World}
theorem run_mark (w : World) (t e : TypeId) (b off n c m : Nat) (ht : P.underlying t = some (.slice e)) (he : P.underlying e = some (.int .u8)) (hs : w.shape? b = some (e, m)) :
    (convert t t (.slice (some ⟨b, off, none⟩) n c)).run P w = .ok (.slice (some ⟨b, off, none⟩) n c) (w.freeze ⟨b, m, none⟩ 1) := by
  simp [convert, run_underlying ht, run_underlying he, markStringish, hs]
theorem shape_new (w : World) (C : Array Value) (e : TypeId) : (w.alloc (.cells C e)).shape? w.heap.size = some (e, C.size) := by
  have : (w.alloc (.cells C e)).heap[w.heap.size]? = some (.cells C e) := heap_new' w _ _ rfl
  unfold World.shape?
  rw [this]
theorem shape_below {A B : World} {b : Nat} (h : Below A.heap.size A B) (hl : b < A.heap.size) : B.shape? b = A.shape? b := by
  unfold World.shape?
  rw [h.block b hl]
/-- the mark as a step of a list of operations -/
theorem convert_mark {t e : TypeId} (x : Operand) (hgd : o.guard = none) (ho : o.op = .convert t t x) (ht : P.underlying t = some (.slice e)) (he : P.underlying e = some (.int .u8))
    (b off n c m : Nat) (hx : a.eval x = .slice (some ⟨b, off, none⟩) n c) (hs : w.shape? b = some (e, m)) (h : wpList P ops Q rest (a.put o.dst (.slice (some ⟨b, off, none⟩) n c)) (w.freeze ⟨b, m, none⟩ 1)) :
    wpList P ops Q (o :: rest) a w := by
  refine wpList_plain hgd fun K hK => ?_
  have hrun := run_mark (P := P) w t e b off n c m ht he hs
  unfold Oper.wp
  simp [execOp, ho, hx, hrun, Result.andThen]
  exact hK _ _ h
/-- the mark as one step of a region that draws its order -/
theorem markD {K : Act → World → Prop} {Z : Prop} {t e : TypeId} (x : Operand) {d : Nat} (hd : o.dst = some d) (hw : Region.wanted o (yielded ops a.tmps) = true) (ho : o.op = .convert t t x)
    (ht : P.underlying t = some (.slice e)) (he : P.underlying e = some (.int .u8)) (b off n c m : Nat) (hx : a.eval x = .slice (some ⟨b, off, none⟩) n c) (hs : w.shape? b = some (e, m))
    (h : K { a with tmps := a.tmps.setIfInBounds d (.slice (some ⟨b, off, none⟩) n c) } (w.freeze ⟨b, m, none⟩ 1)) : if Region.wanted o (yielded ops a.tmps) = true then Oper.wp P o a w K Q else Z := by
  have hrun := run_mark (P := P) w t e b off n c m ht he hs
  rw [if_pos hw]
  unfold Oper.wp
  simp [execOp, ho, hx, hrun, Result.andThen]
  show K (a.put o.dst _) _
  rw [hd]
  exact h
/-- a literal's row, marked -/
theorem lit_rd (w : World) (l : List UInt8) (e : TypeId) (C : Array Value) (hC : C = (l.map u8V).toArray) (m : Nat) : Rd u8V ((w.alloc (.cells C e)).freeze ⟨w.heap.size, m, none⟩ 1) (.slice (some ⟨w.heap.size, 0, none⟩) l.length l.length) l :=
  freeze_rd _ _ (.inr ⟨w.heap.size, 0, l.length, rfl, Nat.le_refl _, (Row.new w (.cells C e) (t := e) (by rw [hC])).at, by simp⟩)
theorem lit_below (w : World) (o : Obj) (m : Nat) : Below w.heap.size w ((w.alloc o).freeze ⟨w.heap.size, m, none⟩ 1) :=
  (below_al (Below.refl _ _) (Nat.le_refl _) o).trans (freeze_below _ _ (Nat.le_refl _))
theorem lit_size (w : World) (o : Obj) (m : Nat) : ((w.alloc o).freeze ⟨w.heap.size, m, none⟩ 1).heap.size = w.heap.size + 1 := by rw [freeze_size]; simp
end Mem
end Go.Proofs.YtgflelodpcgmbaaGreatDoor
/- Facts on the example that sanity needs, in plain Lean. -/
namespace Go.Proofs.YtgflelodpcgmbaaGreatDoor
open Go Go.RowKit Mem
set_option maxRecDepth 100000
deriving instance DecidableEq for St

theorem nameX : NameOK ⟨#[120]⟩ := ⟨by decide, by decide, by decide⟩
theorem acc1 : exN.acc [120, 97, 99] = true := by decide +kernel
theorem out1 : (exN.run ⟨0, false, []⟩ [120, 97, 99]).out = [120, 98] := by decide +kernel
theorem acc2 : exN.acc [97, 97] = false := by decide +kernel
theorem acc3 : exN.acc [120, 97] = false := by decide +kernel
theorem ref1 : refused exN (Sc.upTo [97, 98] (2 + 1)) = 3 := by decide +kernel
theorem scope1 : scopeErr [97, 98] 2 = 0 := by decide +kernel
theorem fin1 : exN.fin 1 false = false := by decide +kernel
theorem fin2 : exN.fin 0 false = true := by decide +kernel
theorem fd1 : exN.run ⟨at0 false 0, false, []⟩ [120, 97] = ⟨1, false, [120]⟩ := by decide +kernel
theorem fd2 : exN.run ⟨at0 false 1, false, []⟩ [99] = ⟨0, false, [98]⟩ := by decide +kernel
theorem fd3 : exN.run ⟨at0 false 1, false, []⟩ [97, 98] = ⟨0, true, []⟩ := by decide +kernel
theorem ok0 : exN.okAt 0 = true := by decide +kernel
theorem ok1 : exN.okAt 1 = true := by decide +kernel
theorem kept1 : Sc.upTo [97, 98] (2 + 1) = [[], [97], [98], [97, 97], [97, 98], [98, 97], [98, 98]] ∧ exN.kept [] = true ∧ exN.kept [97] = false := by decide +kernel
theorem empty_invalid : (⟨[], [], []⟩ : NZ).valid = false := by decide +kernel
theorem inc1 : ∀ i (h : i + 1 < ([97, 98] : List UInt8).length), ([97, 98] : List UInt8)[i].toNat < ([97, 98] : List UInt8)[i + 1].toNat := by
  intro i h
  have hi : i = 0 := by simp at h; omega
  subst hi
  show (97 : UInt8).toNat < (98 : UInt8).toNat
  decide
/-- the first word that the example does not keep is a -/
theorem meets_word {P : Prop} {b : Bool} {R : Sc.Wd → Prop} (h : (b = true ∧ ∀ x ∈ Sc.upTo [97, 98] (2 + 1), exN.kept x = true) ∨ (b = false ∧ ∃ pre x, pre ++ [x] <+: Sc.upTo [97, 98] (2 + 1) ∧ (∀ y ∈ pre, exN.kept y = true) ∧ exN.kept x = false ∧ R x)) (hP : b = false → R [97] → P) : P := by
  obtain ⟨k0, k1, k2⟩ := kept1
  rcases h with ⟨rfl, h⟩ | ⟨rfl, pre, x, hpre, hk, hx, hr⟩
  · have := h [97] (by rw [k0]; simp)
    rw [k2] at this; cases this
  · refine hP rfl ?_
    rw [k0] at hpre
    match pre, hk with
    | [], _ =>
      obtain ⟨t, ht⟩ := hpre
      injection ht with h1 _
      subst h1
      rw [k1] at hx; cases hx
    | [p], hk =>
      obtain ⟨t, ht⟩ := hpre
      injection ht with h1 h2
      injection h2 with h2 _
      subst h2
      exact hr
    | p :: q :: pre, hk =>
      obtain ⟨t, ht⟩ := hpre
      injection ht with h1 h2
      injection h2 with h2 _
      have := hk q (by simp)
      rw [h2, k2] at this; cases this
theorem zeroN (w : World) : NzAt w (.agg #[.slice none 0 0, .slice none 0 0, .slice none 0 0]) ⟨[], [], []⟩ := ⟨_, _, _, rfl, .inl ⟨none, rfl, rfl⟩, .inl ⟨none, rfl, rfl⟩, .inl ⟨none, rfl, rfl⟩⟩
end Go.Proofs.YtgflelodpcgmbaaGreatDoor
