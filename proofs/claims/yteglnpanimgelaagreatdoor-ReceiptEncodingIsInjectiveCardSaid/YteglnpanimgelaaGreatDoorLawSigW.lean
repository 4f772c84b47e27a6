/- The walk of the law on signatures. -/
import Derived.Test.YteglnpanimgelaaGreatDoorAlter
import Derived.Test.YteglnpanimgelaaGreatDoorRefSigned
import Derived.Test.YteglnpanimgelaaGreatDoorSanity
namespace Go.Proofs.YteglnpanimgelaaGreatDoor
open Go.RowKit Mem
set_option maxRecDepth 100000

theorem Mem.At.left {α : Type} {f : α → Value} {w : World} {b o : Nat} {l r : List α} (h : At f w b o (l ++ r)) : At f w b o l := by
  intro i hi
  have := h i (by simp; omega)
  rwa [List.getElem?_append_left hi] at this
theorem Mem.At.right {α : Type} {f : α → Value} {w : World} {b o k : Nat} {l r : List α} (h : At f w b o (l ++ r)) (hk : o + l.length = k) : At f w b k r := by
  intro i hi
  have := h (l.length + i) (by simp; omega)
  rw [List.getElem?_append_right (by omega), Nat.add_sub_cancel_left, ← Nat.add_assoc, hk] at this
  exact this
theorem put_some' (a : Act) (d : Tmp) (v : Value) : Act.put a (some d) v = { a with tmps := a.tmps.setIfInBounds d v } := rfl

theorem yieldsIf_skip {P : Program} {ops : Array Oper} {o : Oper} {a : Act} {S : World → Prop} (hw : Region.wanted o (yielded ops a.tmps) = false) : YieldsIf P ops S o undef a := .inr ⟨hw, rfl⟩
theorem run_neq_bytes (w : World) (x y : List UInt8) (hx : x.length = 32) (hy : y.length = 32) : (binOp .neq 23 (.agg (x.map u8V).toArray) (.agg (y.map u8V).toArray)).run Tryz.prog w = .ok (.bool (!(x == y))) w := by
  rw [run_neq_struct]
  have h : (Op.equalIn 10000 23 (.agg (x.map u8V).toArray) (.agg (y.map u8V).toArray)).run Tryz.prog w = .ok (x == y) w := run_equalIn_bytes (P := Tryz.prog) w 9998 23 5 32 Tryz.underlying23 Tryz.underlying5 (fun _ => rfl) x y hx hy
  rw [h]
  rfl

theorem put_none (a : Act) (v : Value) : Act.put a none v = a := rfl
/-- a take with the slot given, the state laid out -/
theorem takeD {P : Program} {ops : Array Oper} {Q : Exit → Act → World → Prop} {md : Region.Mode} {S : World → Prop} {i d : Nat} {oi : Oper} {v : Value} {fuel : Nat} {listed : Array Bool} {a : Act} {w : World} (hi : ops[i]? = some oi) (hd : oi.dst = some d)
    (hs : Region.noSelect ops = true) (hf : Region.free md ops listed i = true) (hr : (Region.ready md ops listed).contains i = true)
    (hQ : ∀ c a w, Q (.panic c) (a.put oi.dst v) w → Q (.panic c) a w) (hy : YieldsIf P ops S oi v a) (hS : S w)
    (h : wpAnyH P md ops Q S fuel (listed.setIfInBounds i true) { a with tmps := a.tmps.setIfInBounds d v } w) : wpAnyH P md ops Q S (fuel + 1) listed a w := by
  refine wpAnyH_take hi hs hf hr hQ hy hS ?_
  rw [hd]
  exact h
theorem callD {P : Program} {ops : Array Oper} {o : Oper} {a : Act} {w : World} {K : Act → World → Prop} {Q : Exit → Act → World → Prop} {X : Prop} {g : FuncId} {args : Array Value} {d : Nat} (hd : o.dst = some d) (hw : Region.wanted o (yielded ops a.tmps) = true) (he : (execOp a.eval o).run P w = .ok (.enter g args) w)
    (h : Calls P g args w fun e w' => ∃ v, e = .returned v ∧ K { a with tmps := a.tmps.setIfInBounds d v } w') : if Region.wanted o (yielded ops a.tmps) = true then Oper.wp P o a w K Q else X :=
  held_call hw he (h.mono fun e w' ⟨v, e1, e2⟩ => ⟨v, e1, by rw [hd]; exact e2⟩)

/-- where the law's variables lie -/
structure SigAt (S : Nat) (l s : List (Int ⊕ UInt8)) (k0 k1 : List UInt8) (a b : UInt8) (sb : Nat) (w W : World) : Prop where
  r : Row cV W S 40 l
  k : Row u8V W (S + 1) 41 (k0 ++ k1)
  q : Row u8V W (S + 1 + 1) 42 [a, b]
  s : Row cV W sb 40 s
  b : Below S w W
  z : S + 3 ≤ W.heap.size
  sz : sb < W.heap.size
theorem SigAt.below {S : Nat} {l s : List (Int ⊕ UInt8)} {k0 k1 : List UInt8} {a b : UInt8} {sb : Nat} {w W W' : World} (h : SigAt S l s k0 k1 a b sb w W) (hb : Below W.heap.size W W') : SigAt S l s k0 k1 a b sb w W' :=
  ⟨h.r.below hb h.r.lt, h.k.below hb h.k.lt, h.q.below hb h.q.lt, h.s.below hb h.s.lt, h.b.trans (hb.mono (by have := h.z; omega)), Nat.le_trans h.z hb.size, Nat.lt_of_lt_of_le h.sz hb.size⟩

set_option maxHeartbeats 8000000 in
theorem sigHead (w : World) (tg : TypeId) (fg : Nat × Nat) (hg : w.heap[0]? = some (.cells (Sha.consts.map u32V).toArray tg fg)) (l : List (Int ⊕ UInt8)) (hl : IsRec l) (k0 k1 : List UInt8) (hk0 : k0.length = 32) (hk1 : k1.length = 32) (a b : UInt8)
    (C0 S0 : Array Value) (HC : Hid (C0 = (l.map cV).toArray)) (HS : Hid (S0 = ((k0 ++ k1).map u8V).toArray)) :
    Calls Tryz.prog 5 #[.agg C0, .agg S0, .agg #[.int .u8 (a.toNat : Int), .int .u8 (b.toNat : Int)]] w fun e w' => e = .returned (.bool true) ∧ Below w.heap.size w w' := by
  obtain ⟨n, v, s, m, r, c, hm, hr, hc, rfl⟩ := hl.split
  have h0 : 0 < w.heap.size := (Array.getElem?_eq_some_iff.1 hg).1
  have HG := Lib.hid (fun (W : World) (h : Below w.heap.size w W) => (h.block 0 h0).trans hg)
  have HLs := Lib.hid (And.intro hk0 hk1)
  have harrk : AggT Tryz.prog 23 k0.length := by rw [hk0]; exact arr23
  have harrk1 : AggT Tryz.prog 23 k1.length := by rw [hk1]; exact arr23
  have harrR : AggT Tryz.prog 40 (recL n v s m r c).length := isRec_agg hl
  clear hg hk0 hk1
  go_enter Tryz.func5, Tryz.ntmps5
  go_wp2_with fail
  have hx : ∃ W, ((w.alloc (.cells C0 40)).alloc (.cells S0 41)).alloc (.cells #[.int .u8 (a.toNat : Int), .int .u8 (b.toNat : Int)] 42) = W ∧ Row cV W w.heap.size 40 (recL n v s m r c) ∧ Row u8V W (w.heap.size + 1) 41 (k0 ++ k1) ∧ Row u8V W (w.heap.size + 1 + 1) 42 [a, b] ∧ Below w.heap.size w W ∧ w.heap.size + 3 ≤ W.heap.size := by
    refine ⟨_, rfl, ?_, ?_, ?_, (((Below.refl _ _).alloc (Nat.le_refl _) _).alloc (by simp) _).alloc (by simp; omega) _, by simp⟩
    · unfold Row; rw [← HC.out]; exact (Below.heap_alloc _ _ _ (by simp; omega)).trans ((Below.heap_alloc _ _ _ (by simp)).trans (World.alloc_heap_new _ _))
    · unfold Row; rw [← HS.out]; exact (Below.heap_alloc _ _ _ (by simp)).trans (heap_new' _ _ _ (by simp))
    · exact heap_new' _ _ _ (by simp)
  obtain ⟨W, hW, hR, hK, hQ, hB, hZ⟩ := hx
  rw [hW]
  clear hW
  refine (sanity W tg fg (HG.out _ hB)).mono ?_
  rintro e W1 ⟨rfl, hB1⟩
  replace hR := hR.below hB1 hR.lt
  replace hK := hK.below hB1 hK.lt
  replace hQ := hQ.below hB1 hQ.lt
  replace hB := hB.trans (hB1.mono hB.size)
  replace hZ := Nat.le_trans hZ hB1.size
  clear hB1 W
  obtain ⟨Ck, HCk⟩ : ∃ C, Hid (C = (k0.map u8V).toArray) := ⟨_, Lib.hid rfl⟩
  obtain ⟨Cr, HCr⟩ : ∃ C, Hid (C = ((recL n v s m r c).map cV).toArray) := ⟨_, Lib.hid rfl⟩
  go_wp2_with (first
    | ((with_reducible refine load_agg (f := u8V) (l := k0) harrk (.tmp 12) ?_ ?_ (w.heap.size + 1) 0 ?_ hK.at.left HCk.out ?_); rfl; rfl; rfl)
    | ((with_reducible refine load_agg (f := cV) (l := recL n v s m r c) harrR (.tmp 3) ?_ ?_ w.heap.size 0 ?_ hR.at HCr.out ?_); rfl; rfl; rfl))
  refine (issue W1 tg fg (HG.out _ hB) k0 HLs.out.1 n v s m r c hm hr hc Ck Cr HCk HCr).mono ?_
  rintro e W2 ⟨C2, rfl, HC2, hB2⟩
  replace hR := hR.below hB2 hR.lt
  replace hK := hK.below hB2 hK.lt
  replace hQ := hQ.below hB2 hQ.lt
  replace hB := hB.trans (hB2.mono hB.size)
  replace hZ := Nat.le_trans hZ hB2.size
  clear hB2 W1
  have HM := Lib.hid (keyed_length k0 (Sha.msg n v s m r))
  generalize hmac : Sha.keyed k0 (Sha.msg n v s m r) = mac at HC2 HM
  have HMAC := Lib.hid hmac
  clear hmac
  have hsR : IsRec (recL n v s m r mac) := IsRec.of n v s hm hr HM.out
  have hZr : Row cV (W2.alloc (.cells Tryz.zeroCells40 40)) W2.heap.size 40 zrec := Row.new W2 _ (by rw [zeroReceipt])
  have HLZ := Lib.hid (show (recL n v s m r mac).length = zrec.length from hsR.length)
  obtain ⟨Cs, HCs⟩ : ∃ C, Hid (C = ((recL n v s m r mac).map cV).toArray) := ⟨_, Lib.hid rfl⟩
  have cq : ∀ X : World, Row u8V X (w.heap.size + 1 + 1) 42 [a, b] → X.cell? ⟨w.heap.size + 1 + 1, 0, none⟩ = some (.int .u8 (a.toNat : Int)) ∧ X.cell? ⟨w.heap.size + 1 + 1, 1, none⟩ = some (.int .u8 (b.toNat : Int)) := fun X h => ⟨by rw [h.cell?]; rfl, by rw [h.cell?]; rfl⟩
  have HCQ := Lib.hid cq
  clear cq
  go_wp2_with (first
    | ((with_reducible refine store_agg (f := cV) (l := zrec) (l' := recL n v s m r mac) (t := 40) (C := C2) (isRec_agg hsR) (.tmp 8) (.tmp 15) ?_ ?_ W2.heap.size ?_ ?_ ?_ hZr HLZ.out cV_one ?_); rfl; rfl; rfl; exact HC2.out; rfl; intro W3 hs3 hG3 hz3; have hQ3 := (HCQ.out W3 ((hQ.alloc _).grown hG3 (by simp; omega))); have hq1 := hQ3.1; have hq2 := hQ3.2; clear hQ3)
    | ((with_reducible refine load_agg (f := cV) (l := recL n v s m r mac) (isRec_agg hsR) (.tmp 8) ?_ ?_ W2.heap.size 0 ?_ hs3.at HCs.out ?_); rfl; rfl; rfl))
  have hB23 : Below W2.heap.size W2 W3 := ((Below.refl _ _).alloc (Nat.le_refl _) _).grown hG3 (by simp) (fun k e => by cases e; exact Nat.le_refl _)
  clear hq1 hq2 hZr HLZ hG3 hz3
  have hst : SigAt w.heap.size (recL n v s m r c) (recL n v s m r mac) k0 k1 a b W2.heap.size w W3 := ⟨hR.below hB23 hR.lt, hK.below hB23 hK.lt, hQ.below hB23 hQ.lt, hs3, hB.trans (hB23.mono hB.size), Nat.le_trans hZ hB23.size, hs3.lt⟩
  have hsb : w.heap.size + 3 ≤ W2.heap.size := hZ
  clear hR hK hQ hB hZ hs3 hB23
  generalize W2.heap.size = sb at *
  clear W2
  refine (altered W3 _ hsR Cs HCs a b).mono ?_
  rintro e W4 ⟨C4, l', rfl, hl', HC4, hB4⟩
  replace hst := hst.below hB4
  obtain ⟨n', v', s', m', r', c', hm', hr', hc', rfl⟩ := hl'.split
  obtain ⟨Cx, HCx⟩ : ∃ C, Hid (C = ((recL n' v' s' m' r' c').map cV).toArray) := ⟨_, Lib.hid rfl⟩
  clear hB4 W3
  have hZ4 : Row cV (W4.alloc (.cells Tryz.zeroCells40 40)) W4.heap.size 40 zrec := Row.new W4 _ (by rw [zeroReceipt])
  go_wp2_with ((with_reducible refine store_agg (f := cV) (l := zrec) (l' := recL n' v' s' m' r' c') (t := 40) (C := C4) (isRec_agg hl') (.tmp 9) (.tmp 21) ?_ ?_ W4.heap.size ?_ ?_ ?_ hZ4 ?_ cV_one ?_); rfl; rfl; rfl; exact HC4.out; rfl; exact hl'.length; intro W5 hx5 hG5 hz5)
  have hxb := hst.z
  have hB45 : Below W4.heap.size W4 W5 := ((Below.refl _ _).alloc (Nat.le_refl _) _).grown hG5 (by simp) (fun k e => by cases e; exact Nat.le_refl _)
  replace hst := hst.below hB45
  clear hZ4 hG5 hz5 hB45 HC4
  generalize W4.heap.size = xb at *
  clear W4
  obtain ⟨Ck1, HCk1⟩ : ∃ C, Hid (C = (k1.map u8V).toArray) := ⟨_, Lib.hid rfl⟩
  obtain ⟨e, he⟩ : ∃ e, (k0 == k1) = e := ⟨_, rfl⟩
  obtain ⟨b1, hb1⟩ : ∃ b1, (Sha.keyed k1 (Sha.msg n v s m r) == mac) = b1 := ⟨_, rfl⟩
  have hcon : e = true → b1 = true := by
    rintro rfl
    rw [← hb1, ← HMAC.out, beq_iff_eq.1 he, beq_self_eq_true]
  have HE := Lib.hid he
  have HB1 := Lib.hid hb1
  have HCON := Lib.hid hcon
  clear he hb1 hcon
  refine wp_region_held_drew (S := fun W' => SigAt w.heap.size (recL n v s m r c) (recL n v s m r mac) k0 k1 a b sb w W' ∧ Row cV W' xb 40 (recL n' v' s' m' r' c') ∧ xb < W'.heap.size) rfl ⟨⟨hst.r, hst.k, hst.q, hst.s, hst.b.drew, hst.z, hst.sz⟩, hx5, hx5.lt⟩ fun hS => ?_
  refine takeD (i := 0) (d := 22) (v := .pointer (some ⟨w.heap.size + 1, 32, none⟩)) rfl rfl (by kernel_rfl) (by kernel_rfl) (by kernel_rfl) (fun c a w h => h) (yieldsIf_op rfl (fun w => by first | rfl | kernel_rfl | (go_simp; done))) hS ?_
  simp only [put_none, List.setIfInBounds_toArray, List.set_cons_succ, List.set_cons_zero]
  refine takeD (i := 1) (d := 23) (v := .agg Ck1) rfl rfl (by kernel_rfl) (by kernel_rfl) (by kernel_rfl) (fun c a w h => h) (yieldsIf_load (f := u8V) (l := k1) harrk1 (.tmp 22) rfl (w.heap.size + 1) 32 rfl (fun w h => h.1.k.at.right (by rw [HLs.out.1])) HCk1.out rfl) hS ?_
  simp only [List.setIfInBounds_toArray, List.set_cons_succ, List.set_cons_zero]
  refine takeD (i := 2) (d := 24) (v := .agg Cs) rfl rfl (by kernel_rfl) (by kernel_rfl) (by kernel_rfl) (fun c a w h => h) (yieldsIf_load (f := cV) (l := recL n v s m r mac) (isRec_agg hsR) (.tmp 8) rfl sb 0 rfl (fun w h => h.1.s.at) HCs.out rfl) hS ?_
  simp only [List.setIfInBounds_toArray, List.set_cons_succ, List.set_cons_zero]
  refine takeD (i := 4) (d := 26) (v := .pointer (some ⟨w.heap.size + 1, 0, none⟩)) rfl rfl (by kernel_rfl) (by kernel_rfl) (by kernel_rfl) (fun c a w h => h) (yieldsIf_op rfl (fun w => by first | rfl | kernel_rfl | (go_simp; done))) hS ?_
  simp only [List.setIfInBounds_toArray, List.set_cons_succ, List.set_cons_zero]
  refine takeD (i := 5) (d := 27) (v := .agg Ck) rfl rfl (by kernel_rfl) (by kernel_rfl) (by kernel_rfl) (fun c a w h => h) (yieldsIf_load (f := u8V) (l := k0) harrk (.tmp 26) rfl (w.heap.size + 1) 0 rfl (fun w h => h.1.k.at.left) HCk.out rfl) hS ?_
  simp only [List.setIfInBounds_toArray, List.set_cons_succ, List.set_cons_zero]
  refine takeD (i := 6) (d := 28) (v := .pointer (some ⟨w.heap.size + 1, 32, none⟩)) rfl rfl (by kernel_rfl) (by kernel_rfl) (by kernel_rfl) (fun c a w h => h) (yieldsIf_op rfl (fun w => by first | rfl | kernel_rfl | (go_simp; done))) hS ?_
  simp only [List.setIfInBounds_toArray, List.set_cons_succ, List.set_cons_zero]
  refine takeD (i := 7) (d := 29) (v := .agg Ck1) rfl rfl (by kernel_rfl) (by kernel_rfl) (by kernel_rfl) (fun c a w h => h) (yieldsIf_load (f := u8V) (l := k1) harrk1 (.tmp 28) rfl (w.heap.size + 1) 32 rfl (fun w h => h.1.k.at.right (by rw [HLs.out.1])) HCk1.out rfl) hS ?_
  simp only [List.setIfInBounds_toArray, List.set_cons_succ, List.set_cons_zero]
  refine takeD (i := 8) (d := 30) (v := .bool e) rfl rfl (by kernel_rfl) (by kernel_rfl) (by kernel_rfl) (fun c a w h => h) (yieldsIf_op rfl (fun w => by
    have h := run_eql_bytes (P := Tryz.prog) w 23 5 32 Tryz.underlying23 Tryz.underlying5 (fun _ => rfl) k0 k1 HLs.out.1 HLs.out.2
    rw [HE.out] at h
    have e1 : (Ck = (k0.map u8V).toArray) := HCk.out
    have e2 : (Ck1 = (k1.map u8V).toArray) := HCk1.out
    simp [execOp, Act.eval, eqGuard]
    rw [e1, e2]
    have h' : (binOp .eql 23 (.agg (k0.map u8V).toArray) (.agg (k1.map u8V).toArray)).run Tryz.prog w = .ok (.bool e) w := h
    rw [h']
    rfl)) hS ?_
  simp only [List.setIfInBounds_toArray, List.set_cons_succ, List.set_cons_zero]
  refine wpAnyH_ready (rs := [3]) (by kernel_rfl) (by simp) (AllReadyH.cons rfl (fun K' hK => ?_) AllReadyH.nil)
  refine callD (d := 25) (g := 17) (args := #[.agg Ck1, .agg Cs]) rfl rfl (by first | kernel_rfl | (simp [execOp, resolve, invoke, Act.eval]) | go_simp) ?_
  refine (signed W5.drew tg fg (HG.out _ hS.1.b) k1 HLs.out.2 n v s m r mac hm hr HM.out Ck1 Cs HCk1 HCs).mono ?_
  rintro e' W6 ⟨rfl, hB6⟩
  rw [HB1.out]
  replace hS := And.intro (hS.1.below hB6) (And.intro (hS.2.1.below hB6 hS.2.2) (Nat.lt_of_lt_of_le hS.2.2 hB6.size))
  refine ⟨_, rfl, hK.out _ _ hS fun _ => ?_⟩
  clear hK hB6 hst hx5
  simp only [List.setIfInBounds_toArray, List.set_cons_succ, List.set_cons_zero]
  have hcases : (e = true ∧ b1 = true) ∨ (e = false ∧ b1 = false) ∨ (e = false ∧ b1 = true) := by
    have := HCON.out
    cases e <;> cases b1 <;> simp_all
  rcases hcases with ⟨rfl, rfl⟩ | ⟨rfl, rfl⟩ | ⟨rfl, rfl⟩
  · skip
    refine takeD (i := 9) (d := 31) (v := .bool true) rfl rfl (by kernel_rfl) (by kernel_rfl) (by kernel_rfl) (fun c a w h => h) (yieldsIf_op rfl (fun w => by first | rfl | kernel_rfl | (go_simp; done))) hS ?_
    simp only [List.setIfInBounds_toArray, List.set_cons_succ, List.set_cons_zero]
    refine takeD (i := 10) (d := 32) (v := .bool true) rfl rfl (by kernel_rfl) (by kernel_rfl) (by kernel_rfl) (fun c a w h => h) (yieldsIf_op rfl (fun w => by first | rfl | kernel_rfl | (go_simp; done))) hS ?_
    simp only [List.setIfInBounds_toArray, List.set_cons_succ, List.set_cons_zero]
    refine takeD (i := 11) (d := 33) (v := undef) rfl rfl (by kernel_rfl) (by kernel_rfl) (by kernel_rfl) (fun c a w h => h) (yieldsIf_skip rfl) hS ?_
    simp only [List.setIfInBounds_toArray, List.set_cons_succ, List.set_cons_zero]
    refine takeD (i := 12) (d := 34) (v := undef) rfl rfl (by kernel_rfl) (by kernel_rfl) (by kernel_rfl) (fun c a w h => h) (yieldsIf_skip rfl) hS ?_
    simp only [List.setIfInBounds_toArray, List.set_cons_succ, List.set_cons_zero]
    refine takeD (i := 13) (d := 35) (v := undef) rfl rfl (by kernel_rfl) (by kernel_rfl) (by kernel_rfl) (fun c a w h => h) (yieldsIf_skip rfl) hS ?_
    simp only [List.setIfInBounds_toArray, List.set_cons_succ, List.set_cons_zero]
    refine takeD (i := 14) (d := 36) (v := undef) rfl rfl (by kernel_rfl) (by kernel_rfl) (by kernel_rfl) (fun c a w h => h) (yieldsIf_skip rfl) hS ?_
    simp only [List.setIfInBounds_toArray, List.set_cons_succ, List.set_cons_zero]
    refine takeD (i := 15) (d := 37) (v := undef) rfl rfl (by kernel_rfl) (by kernel_rfl) (by kernel_rfl) (fun c a w h => h) (yieldsIf_skip rfl) hS ?_
    simp only [List.setIfInBounds_toArray, List.set_cons_succ, List.set_cons_zero]
    refine takeD (i := 16) (d := 38) (v := undef) rfl rfl (by kernel_rfl) (by kernel_rfl) (by kernel_rfl) (fun c a w h => h) (yieldsIf_skip rfl) hS ?_
    simp only [List.setIfInBounds_toArray, List.set_cons_succ, List.set_cons_zero]
    refine takeD (i := 17) (d := 39) (v := undef) rfl rfl (by kernel_rfl) (by kernel_rfl) (by kernel_rfl) (fun c a w h => h) (yieldsIf_skip rfl) hS ?_
    simp only [List.setIfInBounds_toArray, List.set_cons_succ, List.set_cons_zero]
    refine takeD (i := 18) (d := 40) (v := undef) rfl rfl (by kernel_rfl) (by kernel_rfl) (by kernel_rfl) (fun c a w h => h) (yieldsIf_skip rfl) hS ?_
    simp only [List.setIfInBounds_toArray, List.set_cons_succ, List.set_cons_zero]
    refine takeD (i := 19) (d := 41) (v := undef) rfl rfl (by kernel_rfl) (by kernel_rfl) (by kernel_rfl) (fun c a w h => h) (yieldsIf_skip rfl) hS ?_
    simp only [List.setIfInBounds_toArray, List.set_cons_succ, List.set_cons_zero]
    refine takeD (i := 20) (d := 42) (v := undef) rfl rfl (by kernel_rfl) (by kernel_rfl) (by kernel_rfl) (fun c a w h => h) (yieldsIf_skip rfl) hS ?_
    simp only [List.setIfInBounds_toArray, List.set_cons_succ, List.set_cons_zero]
    refine takeD (i := 21) (d := 43) (v := undef) rfl rfl (by kernel_rfl) (by kernel_rfl) (by kernel_rfl) (fun c a w h => h) (yieldsIf_skip rfl) hS ?_
    simp only [List.setIfInBounds_toArray, List.set_cons_succ, List.set_cons_zero]
    refine takeD (i := 22) (d := 44) (v := .bool true) rfl rfl (by kernel_rfl) (by kernel_rfl) (by kernel_rfl) (fun c a w h => h) (yieldsIf_op rfl (fun w => by first | rfl | kernel_rfl | (go_simp; done))) hS ?_
    simp only [List.setIfInBounds_toArray, List.set_cons_succ, List.set_cons_zero]
    refine takeD (i := 23) (d := 10) (v := .bool true) rfl rfl (by kernel_rfl) (by kernel_rfl) (by kernel_rfl) (fun c a w h => h) (yieldsIf_op rfl (fun w => by first | rfl | kernel_rfl | (go_simp; done))) hS ?_
    simp only [List.setIfInBounds_toArray, List.set_cons_succ, List.set_cons_zero]
    refine wpAnyH_done (by kernel_rfl) ?_ _
    obtain ⟨hst, hx6, hxl⟩ := hS
    go_wp2_with (first
      | ((with_reducible refine load_agg (f := u8V) (l := k0) harrk (.tmp 45) ?_ ?_ (w.heap.size + 1) 0 ?_ hst.k.at.left HCk.out ?_); rfl; rfl; rfl)
      | ((with_reducible refine load_agg (f := cV) (l := recL n v s m r mac) (isRec_agg hsR) (.tmp 8) ?_ ?_ sb 0 ?_ hst.s.at HCs.out ?_); rfl; rfl; rfl))
    refine (signed W6 tg fg (HG.out _ hst.b) k0 HLs.out.1 n v s m r mac hm hr HM.out Ck Cs HCk HCs).mono ?_
    rintro e' W8 ⟨rfl, hB8⟩
    rw [show (Sha.keyed k0 (Sha.msg n v s m r) == mac) = true from by rw [HMAC.out, beq_self_eq_true]]
    replace hst := hst.below hB8
    replace hx6 := hx6.below hB8 hxl
    replace hxl := Nat.lt_of_lt_of_le hxl hB8.size
    clear hB8
    go_wp2_with (first
      | ((with_reducible refine load_agg_g (f := u8V) (l := k0) harrk (.tmp 53) ?_ ?_ (w.heap.size + 1) 0 ?_ hst.k.at.left HCk.out ?_); rfl; rfl; rfl)
      | ((with_reducible refine load_agg_g (f := cV) (l := recL n' v' s' m' r' c') (isRec_agg hl') (.tmp 9) ?_ ?_ xb 0 ?_ hx6.at HCx.out ?_); rfl; rfl; rfl))
    refine (signed W8 tg fg (HG.out _ hst.b) k0 HLs.out.1 n' v' s' m' r' c' hm' hr' hc' Ck Cx HCk HCx).mono ?_
    rintro e' W9 ⟨rfl, hB9⟩
    replace hst := hst.below hB9
    replace hx6 := hx6.below hB9 hxl
    replace hxl := Nat.lt_of_lt_of_le hxl hB9.size
    clear hB9
    obtain ⟨b2, hb2⟩ : ∃ b2, (Sha.keyed k0 (Sha.msg n' v' s' m' r') == c') = b2 := ⟨_, rfl⟩
    rw [hb2]
    have HB2 := Lib.hid hb2
    clear hb2
    cases b2 with
    | false =>
      go_wp2
      go_ret
      exact ⟨rfl, hst.b⟩
    | true =>
      go_wp2_with (first
        | ((with_reducible refine load_agg_g (f := u8V) (l := k0) harrk (.tmp 59) ?_ ?_ (w.heap.size + 1) 0 ?_ hst.k.at.left HCk.out ?_); rfl; rfl; rfl)
        | ((with_reducible refine load_agg_g (f := cV) (l := recL n' v' s' m' r' c') (isRec_agg hl') (.tmp 9) ?_ ?_ xb 0 ?_ hx6.at HCx.out ?_); rfl; rfl; rfl))
      refine (refSigned W9 k0 HLs.out.1 n' v' s' m' r' c' hm' hr' hc' Ck Cx HCk HCx).mono ?_
      rintro e' W10 ⟨rfl, hB10⟩
      rw [HB2.out]
      replace hst := hst.below hB10
      go_wp2
      go_ret
      exact ⟨rfl, hst.b⟩
  · skip
    refine takeD (i := 9) (d := 31) (v := .bool true) rfl rfl (by kernel_rfl) (by kernel_rfl) (by kernel_rfl) (fun c a w h => h) (yieldsIf_op rfl (fun w => by first | rfl | kernel_rfl | (go_simp; done))) hS ?_
    simp only [List.setIfInBounds_toArray, List.set_cons_succ, List.set_cons_zero]
    refine takeD (i := 10) (d := 32) (v := .bool true) rfl rfl (by kernel_rfl) (by kernel_rfl) (by kernel_rfl) (fun c a w h => h) (yieldsIf_op rfl (fun w => by first | rfl | kernel_rfl | (go_simp; done))) hS ?_
    simp only [List.setIfInBounds_toArray, List.set_cons_succ, List.set_cons_zero]
    refine takeD (i := 11) (d := 33) (v := undef) rfl rfl (by kernel_rfl) (by kernel_rfl) (by kernel_rfl) (fun c a w h => h) (yieldsIf_skip rfl) hS ?_
    simp only [List.setIfInBounds_toArray, List.set_cons_succ, List.set_cons_zero]
    refine takeD (i := 12) (d := 34) (v := undef) rfl rfl (by kernel_rfl) (by kernel_rfl) (by kernel_rfl) (fun c a w h => h) (yieldsIf_skip rfl) hS ?_
    simp only [List.setIfInBounds_toArray, List.set_cons_succ, List.set_cons_zero]
    refine takeD (i := 13) (d := 35) (v := undef) rfl rfl (by kernel_rfl) (by kernel_rfl) (by kernel_rfl) (fun c a w h => h) (yieldsIf_skip rfl) hS ?_
    simp only [List.setIfInBounds_toArray, List.set_cons_succ, List.set_cons_zero]
    refine takeD (i := 14) (d := 36) (v := undef) rfl rfl (by kernel_rfl) (by kernel_rfl) (by kernel_rfl) (fun c a w h => h) (yieldsIf_skip rfl) hS ?_
    simp only [List.setIfInBounds_toArray, List.set_cons_succ, List.set_cons_zero]
    refine takeD (i := 15) (d := 37) (v := undef) rfl rfl (by kernel_rfl) (by kernel_rfl) (by kernel_rfl) (fun c a w h => h) (yieldsIf_skip rfl) hS ?_
    simp only [List.setIfInBounds_toArray, List.set_cons_succ, List.set_cons_zero]
    refine takeD (i := 16) (d := 38) (v := undef) rfl rfl (by kernel_rfl) (by kernel_rfl) (by kernel_rfl) (fun c a w h => h) (yieldsIf_skip rfl) hS ?_
    simp only [List.setIfInBounds_toArray, List.set_cons_succ, List.set_cons_zero]
    refine takeD (i := 17) (d := 39) (v := undef) rfl rfl (by kernel_rfl) (by kernel_rfl) (by kernel_rfl) (fun c a w h => h) (yieldsIf_skip rfl) hS ?_
    simp only [List.setIfInBounds_toArray, List.set_cons_succ, List.set_cons_zero]
    refine takeD (i := 18) (d := 40) (v := undef) rfl rfl (by kernel_rfl) (by kernel_rfl) (by kernel_rfl) (fun c a w h => h) (yieldsIf_skip rfl) hS ?_
    simp only [List.setIfInBounds_toArray, List.set_cons_succ, List.set_cons_zero]
    refine takeD (i := 19) (d := 41) (v := undef) rfl rfl (by kernel_rfl) (by kernel_rfl) (by kernel_rfl) (fun c a w h => h) (yieldsIf_skip rfl) hS ?_
    simp only [List.setIfInBounds_toArray, List.set_cons_succ, List.set_cons_zero]
    refine takeD (i := 20) (d := 42) (v := undef) rfl rfl (by kernel_rfl) (by kernel_rfl) (by kernel_rfl) (fun c a w h => h) (yieldsIf_skip rfl) hS ?_
    simp only [List.setIfInBounds_toArray, List.set_cons_succ, List.set_cons_zero]
    refine takeD (i := 21) (d := 43) (v := undef) rfl rfl (by kernel_rfl) (by kernel_rfl) (by kernel_rfl) (fun c a w h => h) (yieldsIf_skip rfl) hS ?_
    simp only [List.setIfInBounds_toArray, List.set_cons_succ, List.set_cons_zero]
    refine takeD (i := 22) (d := 44) (v := .bool true) rfl rfl (by kernel_rfl) (by kernel_rfl) (by kernel_rfl) (fun c a w h => h) (yieldsIf_op rfl (fun w => by first | rfl | kernel_rfl | (go_simp; done))) hS ?_
    simp only [List.setIfInBounds_toArray, List.set_cons_succ, List.set_cons_zero]
    refine takeD (i := 23) (d := 10) (v := .bool true) rfl rfl (by kernel_rfl) (by kernel_rfl) (by kernel_rfl) (fun c a w h => h) (yieldsIf_op rfl (fun w => by first | rfl | kernel_rfl | (go_simp; done))) hS ?_
    simp only [List.setIfInBounds_toArray, List.set_cons_succ, List.set_cons_zero]
    refine wpAnyH_done (by kernel_rfl) ?_ _
    obtain ⟨hst, hx6, hxl⟩ := hS
    go_wp2_with (first
      | ((with_reducible refine load_agg (f := u8V) (l := k0) harrk (.tmp 45) ?_ ?_ (w.heap.size + 1) 0 ?_ hst.k.at.left HCk.out ?_); rfl; rfl; rfl)
      | ((with_reducible refine load_agg (f := cV) (l := recL n v s m r mac) (isRec_agg hsR) (.tmp 8) ?_ ?_ sb 0 ?_ hst.s.at HCs.out ?_); rfl; rfl; rfl))
    refine (signed W6 tg fg (HG.out _ hst.b) k0 HLs.out.1 n v s m r mac hm hr HM.out Ck Cs HCk HCs).mono ?_
    rintro e' W8 ⟨rfl, hB8⟩
    rw [show (Sha.keyed k0 (Sha.msg n v s m r) == mac) = true from by rw [HMAC.out, beq_self_eq_true]]
    replace hst := hst.below hB8
    replace hx6 := hx6.below hB8 hxl
    replace hxl := Nat.lt_of_lt_of_le hxl hB8.size
    clear hB8
    go_wp2_with (first
      | ((with_reducible refine load_agg_g (f := u8V) (l := k0) harrk (.tmp 53) ?_ ?_ (w.heap.size + 1) 0 ?_ hst.k.at.left HCk.out ?_); rfl; rfl; rfl)
      | ((with_reducible refine load_agg_g (f := cV) (l := recL n' v' s' m' r' c') (isRec_agg hl') (.tmp 9) ?_ ?_ xb 0 ?_ hx6.at HCx.out ?_); rfl; rfl; rfl))
    refine (signed W8 tg fg (HG.out _ hst.b) k0 HLs.out.1 n' v' s' m' r' c' hm' hr' hc' Ck Cx HCk HCx).mono ?_
    rintro e' W9 ⟨rfl, hB9⟩
    replace hst := hst.below hB9
    replace hx6 := hx6.below hB9 hxl
    replace hxl := Nat.lt_of_lt_of_le hxl hB9.size
    clear hB9
    obtain ⟨b2, hb2⟩ : ∃ b2, (Sha.keyed k0 (Sha.msg n' v' s' m' r') == c') = b2 := ⟨_, rfl⟩
    rw [hb2]
    have HB2 := Lib.hid hb2
    clear hb2
    cases b2 with
    | false =>
      go_wp2
      go_ret
      exact ⟨rfl, hst.b⟩
    | true =>
      go_wp2_with (first
        | ((with_reducible refine load_agg_g (f := u8V) (l := k0) harrk (.tmp 59) ?_ ?_ (w.heap.size + 1) 0 ?_ hst.k.at.left HCk.out ?_); rfl; rfl; rfl)
        | ((with_reducible refine load_agg_g (f := cV) (l := recL n' v' s' m' r' c') (isRec_agg hl') (.tmp 9) ?_ ?_ xb 0 ?_ hx6.at HCx.out ?_); rfl; rfl; rfl))
      refine (refSigned W9 k0 HLs.out.1 n' v' s' m' r' c' hm' hr' hc' Ck Cx HCk HCx).mono ?_
      rintro e' W10 ⟨rfl, hB10⟩
      rw [HB2.out]
      replace hst := hst.below hB10
      go_wp2
      go_ret
      exact ⟨rfl, hst.b⟩
  · skip
    refine takeD (i := 9) (d := 31) (v := .bool false) rfl rfl (by kernel_rfl) (by kernel_rfl) (by kernel_rfl) (fun c a w h => h) (yieldsIf_op rfl (fun w => by first | rfl | kernel_rfl | (go_simp; done))) hS ?_
    simp only [List.setIfInBounds_toArray, List.set_cons_succ, List.set_cons_zero]
    refine takeD (i := 10) (d := 32) (v := .bool false) rfl rfl (by kernel_rfl) (by kernel_rfl) (by kernel_rfl) (fun c a w h => h) (yieldsIf_op rfl (fun w => by first | rfl | kernel_rfl | (go_simp; done))) hS ?_
    simp only [List.setIfInBounds_toArray, List.set_cons_succ, List.set_cons_zero]
    refine takeD (i := 11) (d := 33) (v := .pointer (some ⟨w.heap.size + 1, 0, none⟩)) rfl rfl (by kernel_rfl) (by kernel_rfl) (by kernel_rfl) (fun c a w h => h) (yieldsIf_op rfl (fun w => by first | rfl | kernel_rfl | (go_simp; done))) hS ?_
    simp only [List.setIfInBounds_toArray, List.set_cons_succ, List.set_cons_zero]
    refine takeD (i := 12) (d := 34) (v := .agg Ck) rfl rfl (by kernel_rfl) (by kernel_rfl) (by kernel_rfl) (fun c a w h => h) (yieldsIf_load (f := u8V) (l := k0) harrk (.tmp 33) rfl (w.heap.size + 1) 0 rfl (fun w h => h.1.k.at.left) HCk.out rfl) hS ?_
    simp only [List.setIfInBounds_toArray, List.set_cons_succ, List.set_cons_zero]
    refine takeD (i := 13) (d := 35) (v := .pointer (some ⟨w.heap.size + 1, 32, none⟩)) rfl rfl (by kernel_rfl) (by kernel_rfl) (by kernel_rfl) (fun c a w h => h) (yieldsIf_op rfl (fun w => by first | rfl | kernel_rfl | (go_simp; done))) hS ?_
    simp only [List.setIfInBounds_toArray, List.set_cons_succ, List.set_cons_zero]
    refine takeD (i := 14) (d := 36) (v := .agg Ck1) rfl rfl (by kernel_rfl) (by kernel_rfl) (by kernel_rfl) (fun c a w h => h) (yieldsIf_load (f := u8V) (l := k1) harrk1 (.tmp 35) rfl (w.heap.size + 1) 32 rfl (fun w h => h.1.k.at.right (by rw [HLs.out.1])) HCk1.out rfl) hS ?_
    simp only [List.setIfInBounds_toArray, List.set_cons_succ, List.set_cons_zero]
    refine takeD (i := 15) (d := 37) (v := .bool true) rfl rfl (by kernel_rfl) (by kernel_rfl) (by kernel_rfl) (fun c a w h => h) (yieldsIf_op rfl (fun w => by
      have h := run_neq_bytes w k0 k1 HLs.out.1 HLs.out.2
      rw [HE.out] at h
      have e1 : (Ck = (k0.map u8V).toArray) := HCk.out
      have e2 : (Ck1 = (k1.map u8V).toArray) := HCk1.out
      simp [execOp, Act.eval, eqGuard]
      rw [e1, e2, h]
      rfl)) hS ?_
    simp only [List.setIfInBounds_toArray, List.set_cons_succ, List.set_cons_zero]
    refine takeD (i := 16) (d := 38) (v := .bool true) rfl rfl (by kernel_rfl) (by kernel_rfl) (by kernel_rfl) (fun c a w h => h) (yieldsIf_op rfl (fun w => by first | rfl | kernel_rfl | (go_simp; done))) hS ?_
    simp only [List.setIfInBounds_toArray, List.set_cons_succ, List.set_cons_zero]
    refine takeD (i := 17) (d := 39) (v := .pointer (some ⟨w.heap.size + 1, 32, none⟩)) rfl rfl (by kernel_rfl) (by kernel_rfl) (by kernel_rfl) (fun c a w h => h) (yieldsIf_op rfl (fun w => by first | rfl | kernel_rfl | (go_simp; done))) hS ?_
    simp only [List.setIfInBounds_toArray, List.set_cons_succ, List.set_cons_zero]
    refine takeD (i := 18) (d := 40) (v := .agg Ck1) rfl rfl (by kernel_rfl) (by kernel_rfl) (by kernel_rfl) (fun c a w h => h) (yieldsIf_load (f := u8V) (l := k1) harrk1 (.tmp 39) rfl (w.heap.size + 1) 32 rfl (fun w h => h.1.k.at.right (by rw [HLs.out.1])) HCk1.out rfl) hS ?_
    simp only [List.setIfInBounds_toArray, List.set_cons_succ, List.set_cons_zero]
    refine takeD (i := 19) (d := 41) (v := .agg Cs) rfl rfl (by kernel_rfl) (by kernel_rfl) (by kernel_rfl) (fun c a w h => h) (yieldsIf_load (f := cV) (l := recL n v s m r mac) (isRec_agg hsR) (.tmp 8) rfl sb 0 rfl (fun w h => h.1.s.at) HCs.out rfl) hS ?_
    simp only [List.setIfInBounds_toArray, List.set_cons_succ, List.set_cons_zero]
    refine wpAnyH_ready (rs := [20]) (by kernel_rfl) (by simp) (AllReadyH.cons rfl (fun K' hK => ?_) AllReadyH.nil)
    refine callD (d := 42) (g := 18) (args := #[.agg Ck1, .agg Cs]) rfl rfl (by first | kernel_rfl | (simp [execOp, resolve, invoke, Act.eval]) | go_simp) ?_
    refine (refSigned W6 k1 HLs.out.2 n v s m r mac hm hr HM.out Ck1 Cs HCk1 HCs).mono ?_
    rintro e' W7 ⟨rfl, hB7⟩
    rw [HB1.out]
    replace hS := And.intro (hS.1.below hB7) (And.intro (hS.2.1.below hB7 hS.2.2) (Nat.lt_of_lt_of_le hS.2.2 hB7.size))
    refine ⟨_, rfl, hK.out _ _ hS fun _ => ?_⟩
    clear hK hB7
    simp only [List.setIfInBounds_toArray, List.set_cons_succ, List.set_cons_zero]
    refine takeD (i := 21) (d := 43) (v := .bool true) rfl rfl (by kernel_rfl) (by kernel_rfl) (by kernel_rfl) (fun c a w h => h) (yieldsIf_op rfl (fun w => by first | rfl | kernel_rfl | (go_simp; done))) hS ?_
    simp only [List.setIfInBounds_toArray, List.set_cons_succ, List.set_cons_zero]
    refine takeD (i := 22) (d := 44) (v := .bool true) rfl rfl (by kernel_rfl) (by kernel_rfl) (by kernel_rfl) (fun c a w h => h) (yieldsIf_op rfl (fun w => by first | rfl | kernel_rfl | (go_simp; done))) hS ?_
    simp only [List.setIfInBounds_toArray, List.set_cons_succ, List.set_cons_zero]
    refine takeD (i := 23) (d := 10) (v := .bool true) rfl rfl (by kernel_rfl) (by kernel_rfl) (by kernel_rfl) (fun c a w h => h) (yieldsIf_op rfl (fun w => by first | rfl | kernel_rfl | (go_simp; done))) hS ?_
    simp only [List.setIfInBounds_toArray, List.set_cons_succ, List.set_cons_zero]
    refine wpAnyH_done (by kernel_rfl) ?_ _
    obtain ⟨hst, hx6, hxl⟩ := hS
    go_wp2_with (first
      | ((with_reducible refine load_agg (f := u8V) (l := k0) harrk (.tmp 45) ?_ ?_ (w.heap.size + 1) 0 ?_ hst.k.at.left HCk.out ?_); rfl; rfl; rfl)
      | ((with_reducible refine load_agg (f := cV) (l := recL n v s m r mac) (isRec_agg hsR) (.tmp 8) ?_ ?_ sb 0 ?_ hst.s.at HCs.out ?_); rfl; rfl; rfl))
    refine (signed W7 tg fg (HG.out _ hst.b) k0 HLs.out.1 n v s m r mac hm hr HM.out Ck Cs HCk HCs).mono ?_
    rintro e' W8 ⟨rfl, hB8⟩
    rw [show (Sha.keyed k0 (Sha.msg n v s m r) == mac) = true from by rw [HMAC.out, beq_self_eq_true]]
    replace hst := hst.below hB8
    replace hx6 := hx6.below hB8 hxl
    replace hxl := Nat.lt_of_lt_of_le hxl hB8.size
    clear hB8
    go_wp2_with (first
      | ((with_reducible refine load_agg_g (f := u8V) (l := k0) harrk (.tmp 53) ?_ ?_ (w.heap.size + 1) 0 ?_ hst.k.at.left HCk.out ?_); rfl; rfl; rfl)
      | ((with_reducible refine load_agg_g (f := cV) (l := recL n' v' s' m' r' c') (isRec_agg hl') (.tmp 9) ?_ ?_ xb 0 ?_ hx6.at HCx.out ?_); rfl; rfl; rfl))
    refine (signed W8 tg fg (HG.out _ hst.b) k0 HLs.out.1 n' v' s' m' r' c' hm' hr' hc' Ck Cx HCk HCx).mono ?_
    rintro e' W9 ⟨rfl, hB9⟩
    replace hst := hst.below hB9
    replace hx6 := hx6.below hB9 hxl
    replace hxl := Nat.lt_of_lt_of_le hxl hB9.size
    clear hB9
    obtain ⟨b2, hb2⟩ : ∃ b2, (Sha.keyed k0 (Sha.msg n' v' s' m' r') == c') = b2 := ⟨_, rfl⟩
    rw [hb2]
    have HB2 := Lib.hid hb2
    clear hb2
    cases b2 with
    | false =>
      go_wp2
      go_ret
      exact ⟨rfl, hst.b⟩
    | true =>
      go_wp2_with (first
        | ((with_reducible refine load_agg_g (f := u8V) (l := k0) harrk (.tmp 59) ?_ ?_ (w.heap.size + 1) 0 ?_ hst.k.at.left HCk.out ?_); rfl; rfl; rfl)
        | ((with_reducible refine load_agg_g (f := cV) (l := recL n' v' s' m' r' c') (isRec_agg hl') (.tmp 9) ?_ ?_ xb 0 ?_ hx6.at HCx.out ?_); rfl; rfl; rfl))
      refine (refSigned W9 k0 HLs.out.1 n' v' s' m' r' c' hm' hr' hc' Ck Cx HCk HCx).mono ?_
      rintro e' W10 ⟨rfl, hB10⟩
      rw [HB2.out]
      replace hst := hst.below hB10
      go_wp2
      go_ret
      exact ⟨rfl, hst.b⟩
end Go.Proofs.YteglnpanimgelaaGreatDoor
