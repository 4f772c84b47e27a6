/- The reference's Signed. -/
import Derived.Test.YteglnpanimgelaaGreatDoorRefIssue
import Derived.Test.YteglnpanimgelaaGreatDoorSigned
import Derived.Laws.StructEq
import Derived.Stop.BytesEq
namespace Go.Proofs.YteglnpanimgelaaGreatDoor
open Go.RowKit Mem
set_option maxRecDepth 100000

theorem fields40 : Tryz.prog.fieldsOf 40 = #[{ name := "Node", type := 3, offset := 0, embedded := false, tag := "", pkgPath := "", byteOffset := 0 },
        { name := "Version", type := 3, offset := 1, embedded := false, tag := "", pkgPath := "", byteOffset := 8 },
        { name := "Serial", type := 3, offset := 2, embedded := false, tag := "", pkgPath := "", byteOffset := 16 },
        { name := "Message", type := 23, offset := 3, embedded := false, tag := "", pkgPath := "", byteOffset := 24 },
        { name := "Record", type := 23, offset := 35, embedded := false, tag := "", pkgPath := "", byteOffset := 56 },
        { name := "Mac", type := 23, offset := 67, embedded := false, tag := "", pkgPath := "", byteOffset := 88 }] := by
  simp [Program.fieldsOf, Tryz.underlying40]

theorem notAgg3 (w : World) : (isAgg 3).run Tryz.prog w = .ok false w := rfl
theorem part_int (w : World) (cs : Array Value) (off : Nat) (x : Value) (h : cs[off]? = some x) : (part 3 cs off).run Tryz.prog w = .ok x w := by
  simp [part, h]
theorem part_bytes (w : World) (cs : Array Value) (off : Nat) (l : List UInt8) (h : cs.extract off (off + 32) = (l.map u8V).toArray) : (part 23 cs off).run Tryz.prog w = .ok (.agg (l.map u8V).toArray) w := by
  simp [part, arr23.agg, arr23.size, h]
theorem extr (A B : List (Int ⊕ UInt8)) (m : List UInt8) (off : Nat) (ho : A.length = off) (hm : m.length = 32) : (((A ++ m.map Sum.inr ++ B).map cV).toArray).extract off (off + 32) = (m.map u8V).toArray := by
  apply Array.toList_inj.1
  subst ho
  simp only [Array.toList_extract, List.map_append, List.extract_eq_take_drop]
  rw [List.append_assoc, List.drop_left' (by simp), List.take_left' (by simp [hm])]
  simp [List.map_map]
  intro a _
  rfl

theorem eqF {P : Program} (w : World) (d : Nat) (xs ys : Array Value) (f : Field) (fs : List Field) (a b : Value) (hn : f.name ≠ "_") (ha : (part f.type xs f.offset).run P w = .ok a w) (hb : (part f.type ys f.offset).run P w = .ok b w)
    (he : (Op.equalIn d f.type a b).run P w = .ok true w) : (Op.eqFields d xs ys (f :: fs)).run P w = (Op.eqFields d xs ys fs).run P w := by
  rw [Op.eqFields, if_pos hn]
  simp [Sem.run_bind, ha, hb, he]
theorem eqL {P : Program} (w : World) (d : Nat) (xs ys : Array Value) (f : Field) (a b : Value) (r : Bool) (hn : f.name ≠ "_") (ha : (part f.type xs f.offset).run P w = .ok a w) (hb : (part f.type ys f.offset).run P w = .ok b w)
    (he : (Op.equalIn d f.type a b).run P w = .ok r w) : (Op.eqFields d xs ys [f]).run P w = .ok r w := by
  rw [Op.eqFields, if_pos hn]
  cases r <;> simp [Sem.run_bind, ha, hb, he, Op.eqFields]

set_option maxHeartbeats 2000000 in
theorem eq_fields (w : World) (d : Nat) (n v s : Int) (m r x y : List UInt8) (hm : m.length = 32) (hr : r.length = 32) (hx : x.length = 32) (hy : y.length = 32) :
    (Op.eqFields (d + 2) ((recL n v s m r x).map cV).toArray ((recL n v s m r y).map cV).toArray (Tryz.prog.fieldsOf 40).toList).run Tryz.prog w = .ok (x == y) w := by
  have p0 : ∀ z, ((recL n v s m r z).map cV).toArray[0]? = some (.int .i64 n) := fun z => rfl
  have p1 : ∀ z, ((recL n v s m r z).map cV).toArray[1]? = some (.int .i64 v) := fun z => rfl
  have p2 : ∀ z, ((recL n v s m r z).map cV).toArray[2]? = some (.int .i64 s) := fun z => rfl
  have p3 : ∀ z, (((recL n v s m r z).map cV).toArray).extract 3 (3 + 32) = (m.map u8V).toArray := fun z => by
    have := extr [.inl n, .inl v, .inl s] (r.map .inr ++ z.map .inr) m 3 rfl hm
    simpa [recL] using this
  have p4 : ∀ z, (((recL n v s m r z).map cV).toArray).extract 35 (35 + 32) = (r.map u8V).toArray := fun z => by
    have := extr ([.inl n, .inl v, .inl s] ++ m.map .inr) (z.map .inr) r 35 (by simp [hm]) hr
    simpa [recL] using this
  have p5 : ∀ z, z.length = 32 → (((recL n v s m r z).map cV).toArray).extract 67 (67 + 32) = (z.map u8V).toArray := fun z hz => by
    have := extr ([.inl n, .inl v, .inl s] ++ m.map .inr ++ r.map .inr) [] z 67 (by simp [hm, hr]) hz
    simpa [recL] using this
  have b : ∀ (z z' : List UInt8), z.length = 32 → z'.length = 32 → (Op.equalIn (d + 2) 23 (.agg (z.map u8V).toArray) (.agg (z'.map u8V).toArray)).run Tryz.prog w = .ok (z == z') w := fun z z' hz hz' =>
    run_equalIn_bytes (P := Tryz.prog) w d 23 5 32 Tryz.underlying23 Tryz.underlying5 (fun _ => rfl) z z' hz hz'
  have i3 : ∀ a : Int, (Op.equalIn (d + 2) 3 (.int .i64 a) (.int .i64 a)).run Tryz.prog w = .ok true w := fun a => by
    rw [run_equalIn_int w (d + 1) 3 .i64 .i64 a a Tryz.underlying3, beq_self_eq_true]
  rw [fields40]
  refine (eqF w _ _ _ _ _ (.int .i64 n) (.int .i64 n) (by decide) (part_int w _ _ _ (p0 x)) (part_int w _ _ _ (p0 y)) (i3 n)).trans ?_
  refine (eqF w _ _ _ _ _ (.int .i64 v) (.int .i64 v) (by decide) (part_int w _ _ _ (p1 x)) (part_int w _ _ _ (p1 y)) (i3 v)).trans ?_
  refine (eqF w _ _ _ _ _ (.int .i64 s) (.int .i64 s) (by decide) (part_int w _ _ _ (p2 x)) (part_int w _ _ _ (p2 y)) (i3 s)).trans ?_
  refine (eqF w _ _ _ _ _ (.agg (m.map u8V).toArray) (.agg (m.map u8V).toArray) (by decide) (part_bytes w _ _ _ (p3 x)) (part_bytes w _ _ _ (p3 y)) ((b m m hm hm).trans (by rw [beq_self_eq_true]))).trans ?_
  refine (eqF w _ _ _ _ _ (.agg (r.map u8V).toArray) (.agg (r.map u8V).toArray) (by decide) (part_bytes w _ _ _ (p4 x)) (part_bytes w _ _ _ (p4 y)) ((b r r hr hr).trans (by rw [beq_self_eq_true]))).trans ?_
  exact eqL w _ _ _ _ (.agg (x.map u8V).toArray) (.agg (y.map u8V).toArray) _ (by decide) (part_bytes w _ _ _ (p5 x hx)) (part_bytes w _ _ _ (p5 y hy)) (b x y hx hy)

theorem stood40 : Tryz.prog.stoodInHeld 40 = false := by kernel_rfl
theorem under40' : Tryz.prog.underlying 40 = some (.struct (Tryz.prog.fieldsOf 40)) := by rw [fields40]; exact Tryz.underlying40
set_option maxHeartbeats 2000000 in
theorem eq_receipt (w : World) (n v s : Int) (m r x y : List UInt8) (hm : m.length = 32) (hr : r.length = 32) (hx : x.length = 32) (hy : y.length = 32) :
    (binOp .eql 40 (.agg ((recL n v s m r x).map cV).toArray) (.agg ((recL n v s m r y).map cV).toArray)).run Tryz.prog w = .ok (.bool (x == y)) w := by
  have h := eq_fields w 9997 n v s m r x y hm hr hx hy
  generalize ((recL n v s m r x).map cV).toArray = X at *
  generalize ((recL n v s m r y).map cV).toArray = Y at *
  rw [run_eql_struct, run_equalIn_agg w 9999 40 _ _ under40' stood40]
  simp only [Nat.reduceAdd] at h
  rw [h]
  rfl

set_option maxHeartbeats 4000000 in
theorem refSigned (w : World) (key : List UInt8) (hk : key.length = 32) (n v s : Int) (m r c : List UInt8) (hm : m.length = 32) (hr : r.length = 32) (hc : c.length = 32)
    (K0 C0 : Array Value) (HK : Hid (K0 = (key.map u8V).toArray)) (HC : Hid (C0 = ((recL n v s m r c).map cV).toArray)) :
    Calls Tryz.prog 18 #[.agg K0, .agg C0] w fun e w' => e = .returned (.bool (Sha.keyed key (Sha.msg n v s m r) == c)) ∧ Below w.heap.size w w' := by
  have hK0 : Row u8V ((w.alloc (.cells K0 23)).alloc (.cells C0 40)) w.heap.size 23 key := by have : Row u8V (w.alloc (.cells K0 23)) w.heap.size 23 key := Row.new w _ (by rw [HK.out])
                                                                                              exact this.alloc _
  have hR0 : Row cV ((w.alloc (.cells K0 23)).alloc (.cells C0 40)) (w.heap.size + 1) 40 (recL n v s m r c) := by
    have := Row.new (f := cV) (t := 40) (l := recL n v s m r c) (w.alloc (.cells K0 23)) (.cells C0 40) (by rw [HC.out])
    rwa [World.size_alloc] at this
  have hb0 : Below w.heap.size w ((w.alloc (.cells K0 23)).alloc (.cells C0 40)) := ((Below.refl _ w).alloc (Nat.le_refl _) _).alloc (by simp) _
  have harrk : AggT Tryz.prog 23 key.length := by rw [hk]; exact arr23
  have harrR : AggT Tryz.prog 40 (recL n v s m r c).length := by rw [recL_length, hm, hr, hc]; exact aggReceipt
  go_enter Tryz.func18, Tryz.ntmps18
  go_wp2_with fail
  have hs0 : ((w.alloc (.cells K0 23)).alloc (.cells C0 40)).heap.size = w.heap.size + 2 := by simp
  generalize (w.alloc (.cells K0 23)).alloc (.cells C0 40) = w0 at *
  refine wp_region_held_drew (S := fun w' => Row u8V w' w.heap.size 23 key ∧ Row cV w' (w.heap.size + 1) 40 (recL n v s m r c) ∧ Below w.heap.size w w' ∧ w.heap.size + 2 ≤ w'.heap.size) rfl ⟨hK0, hR0, hb0.drew, by simp; omega⟩ fun hS => ?_
  refine wpAnyH_take (i := 0) (v := .agg K0) rfl (by kernel_rfl) (by kernel_rfl) (by kernel_rfl) (fun c a w h => h) (yieldsIf_load (f := u8V) (l := key) harrk (.tmp 2) rfl w.heap.size 0 rfl (fun w h => h.1.at) HK.out rfl) hS ?_
  refine wpAnyH_take (i := 1) (v := .agg C0) rfl (by kernel_rfl) (by kernel_rfl) (by kernel_rfl) (fun c a w h => h) (yieldsIf_load (f := cV) (l := recL n v s m r c) harrR (.tmp 3) rfl (w.heap.size + 1) 0 rfl (fun w h => h.2.1.at) HC.out rfl) hS ?_
  refine wpAnyH_take (i := 3) (v := .agg C0) rfl (by kernel_rfl) (by kernel_rfl) (by kernel_rfl) (fun c a w h => h) (yieldsIf_load (f := cV) (l := recL n v s m r c) harrR (.tmp 3) rfl (w.heap.size + 1) 0 rfl (fun w h => h.2.1.at) HC.out rfl) hS ?_
  refine wpAnyH_ready (rs := [2]) (by kernel_rfl) (by simp) (AllReadyH.cons rfl (fun K' hK => ?_) AllReadyH.nil)
  refine held_call (g := 29) (args := #[.agg K0, .agg C0]) rfl (by first | kernel_rfl | (simp [execOp, resolve, invoke, Act.put, Act.eval]) | go_simp) ?_
  refine (refIssue w0.drew key hk n v s m r c hm hr hc K0 C0 HK HC).mono ?_
  rintro e w1 ⟨C1, rfl, HC1, hB1⟩
  have hS1 : Row u8V w1 w.heap.size 23 key ∧ Row cV w1 (w.heap.size + 1) 40 (recL n v s m r c) ∧ Below w.heap.size w w1 ∧ w.heap.size + 2 ≤ w1.heap.size := ⟨hS.1.below hB1 hS.1.lt, hS.2.1.below hB1 hS.2.1.lt, hS.2.2.1.trans (hB1.mono hS.2.2.1.size), Nat.le_trans hS.2.2.2 hB1.size⟩
  refine ⟨_, rfl, hK.out _ _ hS1 fun _ => ?_⟩
  have HM := Lib.hid (keyed_length key (Sha.msg n v s m r))
  obtain ⟨mac, HMAC⟩ : ∃ x, Hid (Sha.keyed key (Sha.msg n v s m r) = x) := ⟨_, Lib.hid rfl⟩
  rw [HMAC.out] at HC1 HM
  refine wpAnyH_take (i := 4) (v := .bool (mac == c)) rfl (by kernel_rfl) (by kernel_rfl) (by kernel_rfl) (fun c a w h => h) (yieldsIf_op rfl (fun w => by
    have h := eq_receipt w n v s m r mac c hm hr HM.out hc
    rw [← HC1.out, ← HC.out] at h
    simp [execOp, Act.put, Act.eval, eqGuard]
    rw [h]
    rfl)) hS1 ?_
  refine wpAnyH_take (i := 5) (v := .bool (mac == c)) rfl (by kernel_rfl) (by kernel_rfl) (by kernel_rfl) (fun c a w h => h) (yieldsIf_op rfl (fun w => by first | kernel_rfl | rfl | go_simp)) hS1 ?_
  refine wpAnyH_done (by kernel_rfl) ?_ _
  go_wp2
  go_ret
  exact ⟨by rw [HMAC.out]; rfl, hS1.2.2.1⟩
end Go.Proofs.YteglnpanimgelaaGreatDoor
